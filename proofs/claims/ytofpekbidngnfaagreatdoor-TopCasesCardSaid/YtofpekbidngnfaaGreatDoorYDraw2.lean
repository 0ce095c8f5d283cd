/-
  One's own library, part 7: the rules by which functions are walked.
-/
import Derived.Test.YtofpekbidngnfaaGreatDoorYSnd9
import Derived.Orders
set_option linter.unusedSectionVars false
set_option linter.unusedSimpArgs false
set_option linter.unusedVariables false
namespace Go.Proofs.YtofpekbidngnfaaGreatDoor
open Go.RowKit
inductive Wk1:AV->AV->Prop
 | rfl (x:AV):Wk1 x x
 | any (x:AV):Wk1 x .any
 | gsl (b sz:Nat) (es:List (List Dat)):Wk1 (.gsl b sz es) (.d (.sl es))
 | esl:Wk1 .esl (.d (.sl []))
 | agg {cs cs':List AV}:cs.length = cs'.length->(∀ (i:Nat) (c c':AV),cs[i]? = some c->cs'[i]? = some c'->Wk1 c c')->Wk1 (.agg cs) (.agg cs')
 | tup {cs cs':List AV}:cs.length = cs'.length->(∀ (i:Nat) (c c':AV),cs[i]? = some c->cs'[i]? = some c'->Wk1 c c')->Wk1 (.tup cs) (.tup cs')
theorem Wk1.sound {σ:Sg} {x y:AV} (h:Wk1 x y):∀ {u:Value},VR σ x u->VR σ y u:=by
 induction h with
 | rfl=>exact λh=>h
 | any=>exact λ_=>.any
 | gsl b sz es=>intro u h; cases h with | gsl _ _ hd=>exact .d hd
 | esl=>intro u h; cases h; exact .d .nil
 | @agg cs cs' hl _ ih =>
  intro u h
  cases h with
  | agg h1 h2 =>
   refine .agg (hl ▸ h1) λi c' u hi hu=>?_
   have hlt:i < cs.length:=by rw [hl]; exact (List.getElem?_eq_some_iff.1 hi).1
   exact ih i _ c' (gEe hlt) hi (h2 i _ u (gEe hlt) hu)
 | @tup cs cs' hl _ ih =>
  intro u h
  cases h with
  | tup h1 h2 =>
   refine .tup (hl ▸ h1) λi c' u hi hu=>?_
   have hlt:i < cs.length:=by rw [hl]; exact (List.getElem?_eq_some_iff.1 hi).1
   exact ih i _ c' (gEe hlt) hi (h2 i _ u (gEe hlt) hu)
inductive WkL:List AV->List AV->Prop
 | nil:WkL [] []
 | cons {x y:AV} {xs ys:List AV}:Wk1 x y->WkL xs ys->WkL (x :: xs) (y :: ys)
theorem WkL.rfl:∀ (xs:List AV),WkL xs xs
 | []=>.nil
 | x :: xs=>.cons (.rfl x) (WkL.rfl xs)
theorem WkL.sound {σ:Sg} {xs ys:List AV} (h:WkL xs ys):∀ {us:List Value},VRs σ xs us->VRs σ ys us:=by
 induction h with
 | nil=>exact λh=>h
 | cons h1 _ ih =>
  intro us h
  obtain ⟨u,us',rfl,h2,h3⟩:=h.cons_inv; exact .cons (h1.sound h2) (ih h3)
def cl (H:List ABlk):Prop:=∀ (b:Nat) (k:ABlk),H[b]? = some k->∀ r ∈ k.refs,r < H.length
theorem cl.append {H l:List ABlk} (h:cl H) (hl:∀ k ∈ l,∀ r ∈ k.refs,r < H.length + l.length):cl (H ++ l):=by
 intro b k hb r hr
 rw [List.length_append]; rw [List.getElem?_append] at hb
 split at hb
 ·exact Nat.lt_of_lt_of_le (h b k hb r hr) (Nat.le_add_right _ _)
 ·exact hl k (List.mem_of_getElem? hb) r hr
theorem HR.cl {σ:Sg} {H:List ABlk} {w:World} (h:HR σ H w):cl H:=λ_ _ hb=>h.refs_lt hb
structure WkB (nb:Nat) (s:List AV) (H:List ABlk) (s0:List AV) (H0:List ABlk):Prop where
 s:WkL s s0
 H:H = H0\/(nb<=H0.length/\(∃ l,H = H0 ++ l)/\Go.Proofs.YtofpekbidngnfaaGreatDoor.cl H0/\∀ r ∈ refs.refsL s0,r < H0.length)
theorem WkB.sound {nb:Nat} {s s0:List AV} {H H0:List ABlk} {a:Act} {σ:Sg} {w:World} (h:WkB nb s H s0 H0) (hr:HR σ H w) (hs:SS σ s a) :
 ∃ σ',ExtN nb σ H w σ' H0 w/\HR σ' H0 w/\SS σ' s0 a:=by
 rcases h.H with rfl | ⟨hnb,⟨l,rfl⟩,hc,hrf⟩
 ·exact ⟨σ,.refl ..,hr,hs.defers,h.s.sound hs.tmps⟩
 ·have hφ:∀ b k,b < H0.length->(σ.trunc H0.length).φ b k = σ.φ b k:=λb k hb=>if_pos hb
  refine ⟨σ.trunc H0.length,⟨λ_ _ h=>h,λb n v hb hv=>by rw [hφ _ _ (by omega)]; exact hv,rfl,rfl,rfl,Nat.le_refl _,λ_ _ _=>rfl,?_,λ_ h=>absurd rfl h,λb hb hd=>?_,rfl⟩,hr.trunc hc,hs.defers,(h.s.sound hs.tmps).trunc hrf⟩
  rotate_left
  ·have hlt:b < H0.length:=by omega
   rw [List.getElem?_append_left hlt] at hd; exact ⟨hd,λn=>hφ _ _ hlt⟩
  rintro k ⟨b,blk,v',hb',hl,hv',hc'⟩; have hlt:b < H0.length:=(List.getElem?_eq_some_iff.1 hb').1; rw [hφ _ _ hlt] at hv'
  ·exact .inl ⟨b,blk,v',by rw [List.getElem?_append_left hlt]; exact hb',hl,hv',hc'⟩
def Wk (nb:Nat) (s:List AV) (H:List ABlk) (s0:List AV) (H0:List ABlk):Prop:=
 ∀ (a:Act) (σ:Sg) (w:World),HR σ H w->SS σ s a->∃ σ',ExtN nb σ H w σ' H0 w/\HR σ' H0 w/\SS σ' s0 a
theorem Wk.sound {nb:Nat} {s s0:List AV} {H H0:List ABlk} {a:Act} {σ:Sg} {w:World} (h:Wk nb s H s0 H0) (hr:HR σ H w) (hs:SS σ s a) :
 ∃ σ',ExtN nb σ H w σ' H0 w/\HR σ' H0 w/\SS σ' s0 a:=h a σ w hr hs
theorem WkB.wk {nb:Nat} {s s0:List AV} {H H0:List ABlk} (h:WkB nb s H s0 H0):Wk nb s H s0 H0:=λ_ _ _ hr hs=>h.sound hr hs
theorem Wk.slots {nb:Nat} {s s0:List AV} {H:List ABlk} (h:WkL s s0):Wk nb s H s0 H:=WkB.wk ⟨h,.inl rfl⟩
theorem Wk.refl {nb:Nat} {s:List AV} {H:List ABlk}:Wk nb s H s H:=Wk.slots (WkL.rfl s)
theorem Wk.drop {nb:Nat} {s s0:List AV} {H0 l:List ABlk} (h:WkL s s0) (hn:nb<=H0.length) (hc:Go.Proofs.YtofpekbidngnfaaGreatDoor.cl H0) (hr:∀ r ∈ refs.refsL s0,r < H0.length):Wk nb s (H0 ++ l) s0 H0:=WkB.wk ⟨h,.inr ⟨hn,⟨l,rfl⟩,hc,hr⟩⟩
theorem Wk.trans {nb:Nat} {s s1 s2:List AV} {H H1 H2:List ABlk} (h:Wk nb s H s1 H1) (k:Wk nb s1 H1 s2 H2):Wk nb s H s2 H2:=λa σ w hr hs=>by
 obtain ⟨σ',x1,x2,x3⟩:=h a σ w hr hs; obtain ⟨σ2,y1,y2,y3⟩:=k a σ' w x2 x3; exact ⟨σ2,x1.trans y1,y2,y3⟩
theorem Wk.ghost {nb:Nat} {s:List AV} {H:List ABlk} (i sz:Nat) (h:s[i]? = some .esl):Wk nb s H (s.set i (.hsl H.length 0 0 0 sz)) (H ++ [.cells []]):=λa σ w hr hs=>by
 obtain ⟨σ',y1,y2,y3⟩:=hr.place0 (.slice none 0 0) (by simp [conc]); have hs':=hs.mono y1.le; refine ⟨σ',y1.toN nb,y2,hs'.defers,?_⟩; have hlt:i < s.length:=(List.getElem?_eq_some_iff.1 h).1; have hlt':i < a.tmps.toList.length:=by rw [<- hs'.tmps.1]; exact hlt
 have hv:=hs'.tmps.2 i .esl _ h (gEe hlt'); have:VR σ' (.hsl H.length 0 0 0 sz) a.tmps.toList[i]:=by
  generalize a.tmps.toList[i] = u at hv
  cases hv
  exact .hsl0 y3
 have h2:=hs'.tmps.set i this
 rwa [List.set_getElem_self] at h2
section
variable {P:Program} {hint:Nat->Option Md} {nb:Nat}
def W (P:Program) (hint:Nat->Option Md) (nb:Nat) (ac:AC) (s:List AV) (H:List ABlk) (Q:APost):Prop:=
 ∀ c,comp P hint c = some ac->∀ σ a w,HR σ H w->SS σ s a->c.wp P (Lift nb Q σ H w) a w
theorem W.mono {ac:AC} {s:List AV} {H:List ABlk} {Q Q':APost} (h:W P hint nb ac s H Q) (hq:∀ e s H,Q e s H->Q' e s H):W P hint nb ac s H Q':=
 λc hc σ a w h1 h2=>wp_mono (h c hc σ a w h1 h2) λ_ _ _ k=>k.mono hq
theorem comp_skip {c:Code} (h:comp P hint c = some .skip):c = .skip:=by
 cases c <;> simp only [comp,Option.map_eq_some_iff,reduceCtorEq] at h <;> (try (repeat' split at h)) <;> (try (simp at h; done)) <;> (try (obtain ⟨_,_,h⟩:=h; cases h; done)) <;> rfl
theorem comp_ret {c:Code} (h:comp P hint c = some .ret):c = .ret:=by
 cases c <;> simp only [comp,Option.map_eq_some_iff,reduceCtorEq] at h <;> (try (repeat' split at h)) <;> (try (simp at h; done)) <;> (try (obtain ⟨_,_,h⟩:=h; cases h; done)) <;> rfl
theorem comp_exit {c:Code} {id:Nat} (h:comp P hint c = some (.exit id)):c = .exit id:=by
 cases c <;> simp only [comp,Option.map_eq_some_iff,reduceCtorEq] at h <;> (try (repeat' split at h)) <;> (try (simp at h; done)) <;> (try (obtain ⟨_,_,h⟩:=h; cases h; done))
 simp only [Option.some.injEq,AC.exit.injEq] at h; rw [h]
theorem comp_reg {c:Code} {l:List Ins} (h:comp P hint c = some (.reg l)):∃ id ops,c = .region id ops false/\compL P hint ops ops.toList = some l:=by
 cases c with
 | region id ops draw =>
  simp only [comp] at h
  split at h
  ·rename_i l' hl
   cases draw with
   | true=>simp at h
   | false=>simp at h; subst h; exact ⟨id,ops,rfl,hl⟩
  ·cases h
 | _=>simp only [comp,Option.map_eq_some_iff,reduceCtorEq] at h <;> (try (repeat' split at h)) <;> (try (simp at h; done)) <;> (try (obtain ⟨_,_,h⟩:=h; cases h; done))
theorem comp_dreg {c:Code} {bm:List (List Nat)} {l:List Ins} (h:comp P hint c = some (.dreg bm l)):∃ id ops,c = .region id ops true/\compL P hint ops ops.toList = some l/\bm = prOf ops:=by
 cases c with
 | region id ops draw =>
  simp only [comp] at h
  split at h
  ·rename_i l' hl
   cases draw with
   | true=>simp at h; obtain ⟨h1,h2⟩:=h; subst h1; subst h2; exact ⟨id,ops,rfl,hl,rfl⟩
   | false=>simp at h
  ·cases h
 | _=>simp only [comp,Option.map_eq_some_iff,reduceCtorEq] at h <;> (try (repeat' split at h)) <;> (try (simp at h; done)) <;> (try (obtain ⟨_,_,h⟩:=h; cases h; done))
theorem comp_seq {c:Code} {x y:AC} (h:comp P hint c = some (.seq x y)):∃ cx cy,c = .seq cx cy/\comp P hint cx = some x/\comp P hint cy = some y:=by
 cases c with
 | seq cx cy =>
  simp only [comp] at h
  split at h
  ·rename_i ex ey; cases h; exact ⟨cx,cy,rfl,ex,ey⟩
  ·cases h
 | _=>simp only [comp,Option.map_eq_some_iff,reduceCtorEq] at h <;> (try (repeat' split at h)) <;> (try (simp at h; done)) <;> (try (obtain ⟨_,_,h⟩:=h; cases h; done))
theorem comp_cond {c:Code} {x:Opd} {p q:AC} (h:comp P hint c = some (.cond x p q)):∃ cx cp cq,c = .cond cx cp cq/\opd cx = some x/\comp P hint cp = some p/\comp P hint cq = some q:=by
 cases c with
 | cond cx cp cq =>
  simp only [comp] at h
  split at h
  ·rename_i ex ep eq; cases h; exact ⟨cx,cp,cq,rfl,ex,ep,eq⟩
  ·cases h
 | _=>simp only [comp,Option.map_eq_some_iff,reduceCtorEq] at h <;> (try (repeat' split at h)) <;> (try (simp at h; done)) <;> (try (obtain ⟨_,_,h⟩:=h; cases h; done))
theorem comp_block {c:Code} {id:Nat} {x:AC} (h:comp P hint c = some (.block id x)):∃ cx,c = .block id cx/\comp P hint cx = some x:=by
 cases c with
 | block id' cx =>
  simp only [comp,Option.map_eq_some_iff] at h; obtain ⟨y,hy,h⟩:=h
  cases h; exact ⟨cx,rfl,hy⟩
 | _=>simp only [comp,Option.map_eq_some_iff,reduceCtorEq] at h <;> (try (repeat' split at h)) <;> (try (simp at h; done)) <;> (try (obtain ⟨_,_,h⟩:=h; cases h; done))
theorem comp_loop {c:Code} {x:AC} (h:comp P hint c = some (.loop x)):∃ cx,c = .loop cx/\comp P hint cx = some x:=by
 cases c with
 | loop cx =>
  simp only [comp,Option.map_eq_some_iff] at h; obtain ⟨y,hy,h⟩:=h
  cases h; exact ⟨cx,rfl,hy⟩
 | _=>simp only [comp,Option.map_eq_some_iff,reduceCtorEq] at h <;> (try (repeat' split at h)) <;> (try (simp at h; done)) <;> (try (obtain ⟨_,_,h⟩:=h; cases h; done))
theorem W.skip {s:List AV} {H:List ABlk} {Q:APost} (hq:Q .normal s H):W P hint nb .skip s H Q:=by
 intro c hc σ a w h hs
 rw [comp_skip hc]; exact wp_skip ⟨σ,s,H,.refl ..,h,hs,hq⟩
theorem W.exit {s:List AV} {H:List ABlk} {Q:APost} {id:Nat} (hq:Q (.exit id) s H):W P hint nb (.exit id) s H Q:=by
 intro c hc σ a w h hs
 rw [comp_exit hc]; exact wp_exit ⟨σ,s,H,.refl ..,h,hs,hq⟩
theorem W.ret {s:List AV} {H:List ABlk} {Q:APost} (hq:Q .ret s H):W P hint nb .ret s H Q:=by
 intro c hc σ a w h hs
 rw [comp_ret hc]; exact wp_ret ⟨σ,s,H,.refl ..,h,hs,hq⟩
theorem W.reg {l:List Ins} {s:List AV} {H:List ABlk} {Q:APost} (hw:wpIns P l s H (Q .normal)):W P hint nb (.reg l) s H Q:=by
 intro c hc σ a w h hs
 obtain ⟨id,ops,rfl,hl⟩:=comp_reg hc; exact wp_region_list (list_sound hl (.refl ..) h hs hw)
theorem W.seq {x y:AC} {s:List AV} {H:List ABlk} {Q:APost} (hw:W P hint nb x s H (APost.then (λs' H'=>W P hint nb y s' H' Q) Q)):W P hint nb (.seq x y) s H Q:=by
 intro c hc σ a w h hs
 obtain ⟨cx,cy,rfl,ex,ey⟩:=comp_seq hc; refine wp_seq (wp_mono (hw cx ex σ a w h hs) λe a' w' k=>?_); obtain ⟨σ',s',H',x1,x2,x3,x4⟩:=k
 cases e with
 | normal=>exact wp_mono (x4 cy ey σ' a' w' x2 x3) λe a'' w'' k=>k.ext x1
 | _=>exact ⟨σ',s',H',x1,x2,x3,x4⟩
theorem W.seq_reg {l:List Ins} {y:AC} {s:List AV} {H:List ABlk} {Q:APost} (hw:wpIns P l s H (λs' H'=>W P hint nb y s' H' Q)):W P hint nb (.seq (.reg l) y) s H Q:=.seq (.reg hw)
theorem W.cond {x:Opd} {p q:AC} {s:List AV} {H:List ABlk} {Q:APost} (t:Bool) (e:Go.Proofs.YtofpekbidngnfaaGreatDoor.get s x = .d (.v (.bool t))) (h1:t = true->W P hint nb p s H Q) (h2:t = false->W P hint nb q s H Q):W P hint nb (.cond x p q) s H Q:=by
 intro c hc σ a w h hs
 obtain ⟨cx,cp,cq,rfl,ex,ep,eq⟩:=comp_cond hc; have hv:=get_sound ex hs; rw [e] at hv; exact wp_cond_split hv.bool_inv (λhb=>h1 hb cp ep σ a w h hs) (λhb=>h2 hb cq eq σ a w h hs)
theorem W.cond2 {x:Opd} {p q:AC} {s:List AV} {H:List ABlk} {Q:APost} (e:Go.Proofs.YtofpekbidngnfaaGreatDoor.get s x = .ub) (h1:W P hint nb p s H Q) (h2:W P hint nb q s H Q):W P hint nb (.cond x p q) s H Q:=by
 intro c hc σ a w h hs
 obtain ⟨cx,cp,cq,rfl,ex,ep,eq⟩:=comp_cond hc; have hv:=get_sound ex hs; rw [e] at hv
 generalize hu:a.eval cx = u at hv
 cases hv with
 | ub=>exact wp_cond_split hu (λ_=>h1 cp ep σ a w h hs) (λ_=>h2 cq eq σ a w h hs)
theorem W.block {id:Nat} {x:AC} {s:List AV} {H:List ABlk} {Q:APost} (hw:W P hint nb x s H (APost.inBlock id Q)):W P hint nb (.block id x) s H Q:=by
 intro c hc σ a w h hs
 obtain ⟨cx,rfl,ex⟩:=comp_block hc; refine wp_block (wp_mono (hw cx ex σ a w h hs) λe a' w' k=>?_); obtain ⟨σ',s',H',x1,x2,x3,x4⟩:=k
 cases e with
 | exit id' =>
  simp only [Exit.inBlock]; simp only [APost.inBlock] at x4
  split
  ·rename_i e; rw [if_pos e] at x4; exact ⟨σ',s',H',x1,x2,x3,x4⟩
  ·rename_i e; rw [if_neg e] at x4; exact ⟨σ',s',H',x1,x2,x3,x4⟩
 | _=>exact ⟨σ',s',H',x1,x2,x3,x4⟩
theorem W.weak {x:AC} {s s0:List AV} {H H0:List ABlk} {Q:APost} (hk:Wk nb s H s0 H0) (hw:W P hint nb x s0 H0 Q):W P hint nb x s H Q:=by
 intro c hc σ a w h hs
 obtain ⟨σ',x1,x2,x3⟩:=hk.sound h hs; exact wp_mono (hw c hc σ' a w x2 x3) λe a' w' k=>k.ext x1
theorem W.loop {x:AC} {s:List AV} {H:List ABlk} {Q:APost} (I:Nat->List AV->List ABlk->Prop) (n:Nat) (h0:∃ s0 H0,Wk nb s H s0 H0/\I n s0 H0)
 (hr:∀ n s H,I n s H->W P hint nb x s H (APost.then (λs' H'=>∃ m,m < n/\∃ s0 H0,Wk nb s' H' s0 H0/\I m s0 H0) Q)):W P hint nb (.loop x) s H Q:=by
 intro c hc σ a w h hs
 obtain ⟨cx,rfl,ex⟩:=comp_loop hc; obtain ⟨s0,H0,hk,hI⟩:=h0; obtain ⟨σ0,x1,x2,x3⟩:=hk.sound h hs; refine wp_loop_ghost (λm a' w'=>∃ σ' s' H',ExtN nb σ H w σ' H' w'/\HR σ' H' w'/\SS σ' s' a'/\I m s' H') n ⟨σ0,s0,H0,x1,x2,x3,hI⟩ ?_; rintro m a' w' ⟨σ',s',H',x1,x2,x3,x4⟩; refine wp_mono (hr m s' H' x4 cx ex σ' a' w' x2 x3) λe a'' w'' k=>?_
 obtain ⟨σ2,s2,H2,y1,y2,y3,y4⟩:=k
 cases e with
 | normal =>
  obtain ⟨m',hlt,s0,H0,hk,hI'⟩:=y4; obtain ⟨σ3,z1,z2,z3⟩:=hk.sound y2 y3; exact ⟨m',hlt,σ3,s0,H0,(x1.trans y1).trans z1,z2,z3,hI'⟩
 | _=>exact ⟨σ2,s2,H2,x1.trans y1,y2,y3,y4⟩
def retW (rs:List RC) (nb:Nat) (R:AV->List ABlk->Prop):APost
 | .normal,s,H | .ret,s,H=>∃ v,resA rs s H = some v/\∃ v0 H0,Wk nb [v] H [v0] H0/\R v0 H0
 | _,_,_=>False
theorem ACalls.of0 {f:FuncId} {args:List AV} {H:List ABlk} {R:AV->List ABlk->Prop} (h:∀ (σ:Sg) (w:World) (vs:List Value),σ.D = []->HR σ H w->VRs σ args vs ->
 Calls P f vs.toArray w λe w'=>∃ σ' H' v u,e = .returned u/\Ext σ H w σ' H' w'/\HR σ' H' w'/\VR σ' v u/\R v H'):ACalls P f args H R:=λσ w vs h1 h2 =>
 (h (σ.setD []) w vs rfl (h1.setD []) (h2.mono0 (σ.setD_le0 []))).mono fun e w' he => by
   obtain ⟨σ',H',v,u,e1,x1,x2,x3,x4⟩:=he; exact ⟨σ'.setD σ.D,H',v,u,e1,x1.setD,x2.setD _,x3.mono0 (σ'.setD_le0 _),x4⟩
theorem ACalls.enter {f:FuncId} {fn:Func} {ac:AC} {rs:List RC} {args:List AV} {H:List ABlk} {R:AV->List ABlk->Prop} (hf:P.funcs[f]? = some fn) (hc:fn.body.bind (comp P hint) = some ac) (hrs:resC P fn = some rs)
 (hw:cl H->W P hint H.length ac (args ++ List.replicate (fn.ntmps - args.length) .any) H (retW rs H.length R)):ACalls P f args H R:=by
 obtain ⟨c,hb,hc⟩:=Option.bind_eq_some_iff.1 hc; refine ACalls.of0 λσ w vs hD h hv=>calls_of_wp hf hb ?_
 have hs:SS σ (args ++ List.replicate (fn.ntmps - args.length) .any) { tmps:=vs.toArray ++ Array.replicate (fn.ntmps - vs.toArray.size) undef,defers:=[] }:=by
  refine ⟨hD.symm,?_⟩; have:=hv.append (VRs.replicate (σ:=σ) (fn.ntmps - args.length) (List.replicate (fn.ntmps - args.length) undef) (by simp))
  simpa [hv.1] using this
 have fin:∀ {s':List AV} {a':Act} {σ':Sg} {H':List ABlk} {w':World},ExtN H.length σ H w σ' H' w'->HR σ' H' w'->SS σ' s' a'->(∃ v,resA rs s' H' = some v/\∃ v0 H0,Wk H.length [v] H' [v0] H0/\R v0 H0) ->
  ∃ u,(results fn a'.tmps).run P w' = .ok u w'/\∃ σ' H' v u',Ending.returned u = .returned u'/\Ext σ H w σ' H' w'/\HR σ' H' w'/\VR σ' v u'/\R v H':=by
  intro s' a' σ' H' w' x1 x2 x3 x4
  obtain ⟨v,e1,v0,H0,hk,hR⟩:=x4; obtain ⟨u,hr,hvr⟩:=resA_sound (P:=P) hrs e1 x3 x2; obtain ⟨σ2,y1,y2,y3⟩:=hk.sound (a:={ tmps:=#[u],defers:=σ'.D }) x2 ⟨rfl,.cons hvr .nil⟩; exact ⟨u,hr,σ2,H0,v0,u,rfl,(x1.trans y1).full h,y2,y3.tmps.2 0 v0 u rfl rfl,hR⟩
 refine wp_mono (hw h.cl c hc σ _ w h hs) λe a' w' k=>?_
 obtain ⟨σ',s',H',x1,x2,x3,x4⟩:=k
 cases e with
 | normal=>exact ⟨x3.defers.trans (x1.D.trans hD),fin x1 x2 x3 x4⟩
 | ret=>exact ⟨x3.defers.trans (x1.D.trans hD),fin x1 x2 x3 x4⟩
 | _=>exact x4.elim
theorem retW.mk {rs:List RC} {nb:Nat} {R:AV->List ABlk->Prop} {s:List AV} {H:List ABlk} (v v0:AV) (H0:List ABlk) (h1:resA rs s H = some v) (h2:Wk1 v v0) (h3:H = H0\/(nb<=H0.length/\(∃ l,H = H0 ++ l)/\Go.Proofs.YtofpekbidngnfaaGreatDoor.cl H0/\∀ r ∈ refs v0,r < H0.length)) (h4:R v0 H0):retW rs nb R .ret s H:=
 ⟨v,h1,v0,H0,WkB.wk ⟨.cons h2 .nil,h3.imp id λ⟨a,b,c,d⟩=>⟨a,b,c,λr hr=>d r (by simpa [refs.refsL] using hr)⟩⟩,h4⟩
end
def anc (pr:List (List Nat)):List (List Nat):=pr.foldl (λacc p=>acc ++ [(p ++ p.flatMap λi=>acc.getD i []).eraseDups]) []
inductive Reach (pr:List (List Nat)):Nat->Nat->Prop
 | one {j k:Nat}:k ∈ pr.getD j []->Reach pr j k
 | more {j i k:Nat}:i ∈ pr.getD j []->Reach pr i k->Reach pr j k
theorem anc_reach (pr:List (List Nat)):∀ j k,k ∈ (anc pr).getD j []->Reach pr j k:=by
 have go:∀ (rest done:List (List Nat)) (acc:List (List Nat)),pr = done ++ rest->acc.length = done.length->(∀ j k,k ∈ acc.getD j []->Reach pr j k) ->
  ∀ j k,k ∈ (rest.foldl (λacc p=>acc ++ [(p ++ p.flatMap λi=>acc.getD i []).eraseDups]) acc).getD j []->Reach pr j k:=by
  intro rest
  induction rest with
  | nil=>intro done acc _ _ h; exact h
  | cons p rest ih =>
   intro done acc hp hl h
   refine ih (done ++ [p]) _ (by simp [hp]) (by simp [hl]) λj k hk=>?_
   have hpj:pr.getD acc.length [] = p:=by rw [hp,hl]; simp
   rcases Nat.lt_trichotomy j acc.length with hj | hj | hj
   ·refine h j k ?_
    simpa [List.getElem?_append,hj] using hk
   ·subst hj
    simp only [gDd,List.getElem?_concat_length,Option.getD_some,List.mem_eraseDups,List.mem_append,List.mem_flatMap] at hk; rcases hk with hk | ⟨i,hi,hk⟩
    ·exact .one (by rw [hpj]; exact hk)
    ·exact .more (by rw [hpj]; exact hi) (h i k (by simpa using hk))
   ·rw [gDd,List.getElem?_eq_none (by simp; omega)] at hk
    simp at hk
 exact go pr [] [] rfl rfl (λj k h=>by simp at h)
def ancOf (pr:List (List Nat)) (j:Nat):List Nat:=(anc pr).getD j []
theorem reach_closed {pr:List (List Nat)} {L:Nat->Prop} (hL:∀ i,L i->∀ k ∈ pr.getD i [],L k) {j k:Nat} (h:Reach pr j k) (hj:∀ i ∈ pr.getD j [],L i):L k:=by
 induction h with
 | one h=>exact hj _ h
 | more h _ ih=>exact ih (hL _ (hj _ h))
def Opd.sl:Opd->List Nat
 | .t n=>[n]
 | .c _=>[]
def Opd.slO:Option Opd->List Nat
 | some x=>x.sl
 | none=>[]
def K.sl:K->List Nat
 | .mv x | .mvg _ _ x | .bx x | .ld x _ _ | .nc x | .un _ x | .cvi _ x | .fa x _ | .fld x _ _ _ | .slz x | .ext x _ | .len _ x | .s2b _ _ x | .b2s x | .isn _ _ x | .eqi _ x | .mki _ x | .tas _ _ x _ | .mlen x | .rng x | .nxt x | .ent x=>x.sl
 | .pick c a b=>c.sl ++ a.sl ++ b.sl
 | .al _ | .alb _ | .mkm _=>[]
 | .bd _ ps=>ps.flatMap λp=>p.2.2.sl
 | .bs _ _ _ ps | .mn ps | .mx ps | .mkf _ ps | .mkb _ ps | .call _ ps=>ps.flatMap Opd.sl
 | .callv g ps=>g.sl ++ ps.flatMap Opd.sl
 | .inv _ g ps=>g.sl ++ ps.flatMap Opd.sl
 | .st x v _ | .bin _ x v | .ia x v _ | .iar x v _ _ | .ix x v | .ixv x v _ | .app _ _ _ _ x v | .cpy _ x v | .lk _ _ x v _ | .me _ _ x v | .del _ x v | .eqs _ x v | .eqp _ x v | .ixb _ x v | .eqg _ _ x v=>x.sl ++ v.sl
 | .sli _ x lo hi _=>x.sl ++ Opd.slO lo ++ Opd.slO hi
 | .sla x lo hi _ _=>x.sl ++ Opd.slO lo ++ Opd.slO hi
 | .mks _ _ _ _ _ n c=>n.sl ++ c.sl
 | .mu _ m k v | .mes m k v=>m.sl ++ k.sl ++ v.sl
def Ins.sl (i:Ins):List Nat:=i.k.sl ++ (match i.g with | some (g,_)=>[g] | none=>[])
def mask (rd:List Nat) (s:List AV):List AV:=s.mapIdx λi x=>if rd.contains i then x else .any
theorem mask_length (rd:List Nat) (s:List AV):(mask rd s).length = s.length:=by simp [mask]
theorem mask_get {rd:List Nat} {s:List AV} {t:Nat} (h:t ∈ rd):(mask rd s).getD t .any = s.getD t .any:=by
 simp only [gDd,mask,List.getElem?_mapIdx]
 cases s[t]? with
 | none=>rfl
 | some x=>simp [h]
theorem get_mask {rd:List Nat} {s:List AV} {x:Opd} (h:∀ t ∈ x.sl,t ∈ rd):get (mask rd s) x = get s x:=by
 cases x with
 | t n=>exact mask_get (h n (by simp [Opd.sl]))
 | c v=>rfl
def StepOk (P:Program) (i:Ins) (s:List AV) (G:List ABlk) (v:AV) (G':List ABlk):Prop:=
 match wanted s i.g with
 | some true =>
  match i.k with
  | .call f args=>ACalls P f (args.map (get s)) G λv' G''=>v' = v/\G'' = G'
  | .callv g args=>match get s g with
   | .fn f caps=>callOk P f = true/\ACalls P f (args.map (get s) ++ caps) G λv' G''=>v' = v/\G'' = G'
   | .fnb f first=>callOk P f = true/\ACalls P f (first ++ args.map (get s)) G λv' G''=>v' = v/\G'' = G'
   | _=>False
  | .inv tb x args=>match get s x with
   | .ifc t y=>match tbF tb t with
    | some f=>ACalls P f (y :: args.map (get s)) G λv' G''=>v' = v/\G'' = G'
    | none=>False
   | _=>False
  | k=>evK k s G = some (v,G')
 | some false=>v = .tup []/\G' = G
 | none=>False
theorem map_get_mask {rd:List Nat} {s:List AV} {l:List Opd} (h:∀ t ∈ l.flatMap Opd.sl,t ∈ rd):l.map (get (mask rd s)) = l.map (get s):=
 List.map_congr_left λx hx=>get_mask λt ht=>h t (List.mem_flatMap.2 ⟨x,hx,ht⟩)
theorem bnd_mask {rd:List Nat} {s:List AV} {d:Nat} {x:Option Opd} (h:∀ t ∈ Opd.slO x,t ∈ rd):bnd (mask rd s) d x = bnd s d x:=by
 cases x with
 | none=>rfl
 | some x=>simp only [bnd,get_mask (x:=x) h]
theorem ints_mask {rd:List Nat} {s:List AV}:∀ {l:List Opd},(∀ t ∈ l.flatMap Opd.sl,t ∈ rd)->ints (mask rd s) l = ints s l
 | [],_=>rfl
 | x :: l,h=>by
  simp only [ints,get_mask (x:=x) (s:=s) (rd:=rd) λt ht=>h t (by simp [ht]),ints_mask (l:=l) (s:=s) (rd:=rd) λt ht=>h t (by simp only [List.flatMap_cons,List.mem_append]; exact .inr ht)]
theorem evK_mask {rd:List Nat} {s:List AV} {G:List ABlk} {k:K} (h:∀ t ∈ k.sl,t ∈ rd):evK k (mask rd s) G = evK k s G:=by
 have m2:∀ {l l':List Nat} (_:∀ t ∈ l ++ l',t ∈ rd),(∀ t ∈ l,t ∈ rd)/\(∀ t ∈ l',t ∈ rd):=λh=>⟨λt ht=>h t (List.mem_append.2 (.inl ht)),λt ht=>h t (List.mem_append.2 (.inr ht))⟩
 cases k with
 | bs md e sz ps =>
  have hall:ps.all (λp=>shown (get (mask rd s) p) && (cellsAV (get (mask rd s) p)).length == sz) = ps.all (λp=>shown (get s p) && (cellsAV (get s p)).length == sz):=by
   have:=map_get_mask (s:=s) (l:=ps) h; have h1:∀ s:List AV,ps.all (λp=>shown (get s p) && (cellsAV (get s p)).length == sz) = (ps.map (get s)).all (λx=>shown x && (cellsAV x).length == sz):=λs=>by rw [List.all_map]; rfl
   rw [h1,h1,this]
  have hmap:(ps.map λp=>cellsAV (get (mask rd s) p)) = ps.map λp=>cellsAV (get s p):=by
   have:=map_get_mask (s:=s) (l:=ps) h; have h1:∀ s:List AV,(ps.map λp=>cellsAV (get s p)) = (ps.map (get s)).map cellsAV:=λs=>by rw [List.map_map]; rfl
   rw [h1,h1,this]
  simp only [evK,hall,hmap]
 | bd z ps =>
  have hmap:(ps.map λp=>(p.1,p.2.1,get (mask rd s) p.2.2)) = ps.map λp=>(p.1,p.2.1,get s p.2.2):=
   List.map_congr_left λx hx=>by rw [get_mask λt ht=>h t (List.mem_flatMap.2 ⟨x,hx,ht⟩)]
  simp only [evK,hmap]
 | mn xs=>simp only [evK,ints_mask (l:=xs) h]
 | mx xs=>simp only [evK,ints_mask (l:=xs) h]
 | mkf f xs=>simp only [evK,map_get_mask (l:=xs) h]
 | mkb f xs=>simp only [evK,map_get_mask (l:=xs) h]
 | mki t x=>simp only [evK,get_mask (x:=x) h]
 | tas t z x ok=>simp only [evK,get_mask (x:=x) h]
 | mlen x=>simp only [evK,get_mask (x:=x) h]
 | sli b x lo hi sz =>
  obtain ⟨h1,h2⟩:=m2 h; obtain ⟨h3,h4⟩:=m2 h1; simp only [evK,get_mask (x:=x) h3,bnd_mask (x:=lo) h4,bnd_mask (x:=hi) h2]
 | sla x lo hi n sz =>
  obtain ⟨h1,h2⟩:=m2 h; obtain ⟨h3,h4⟩:=m2 h1; simp only [evK,get_mask (x:=x) h3,bnd_mask (x:=lo) h4,bnd_mask (x:=hi) h2]
 | pick c a b =>
  obtain ⟨h1,h2⟩:=m2 h; obtain ⟨h3,h4⟩:=m2 h1; simp only [evK,get_mask (x:=c) h3,get_mask (x:=a) h4,get_mask (x:=b) h2]
 | st x v n=>obtain ⟨h1,h2⟩:=m2 h; simp only [evK,get_mask (x:=x) h1,get_mask (x:=v) h2]
 | bin op x v=>obtain ⟨h1,h2⟩:=m2 h; simp only [evK,get_mask (x:=x) h1,get_mask (x:=v) h2]
 | ia x v n=>obtain ⟨h1,h2⟩:=m2 h; simp only [evK,get_mask (x:=x) h1,get_mask (x:=v) h2]
 | iar x v n m=>obtain ⟨h1,h2⟩:=m2 h; simp only [evK,get_mask (x:=x) h1,get_mask (x:=v) h2]
 | ix x v=>obtain ⟨h1,h2⟩:=m2 h; simp only [evK,get_mask (x:=x) h1,get_mask (x:=v) h2]
 | ixv x v n=>obtain ⟨h1,h2⟩:=m2 h; simp only [evK,get_mask (x:=x) h1,get_mask (x:=v) h2]
 | app md e sz b x v=>obtain ⟨h1,h2⟩:=m2 h; simp only [evK,get_mask (x:=x) h1,get_mask (x:=v) h2]
 | eqs n x v=>obtain ⟨h1,h2⟩:=m2 h; simp only [evK,get_mask (x:=x) h1,get_mask (x:=v) h2]
 | eqp n x v=>obtain ⟨h1,h2⟩:=m2 h; simp only [evK,get_mask (x:=x) h1,get_mask (x:=v) h2]
 | cpy n x v=>obtain ⟨h1,h2⟩:=m2 h; simp only [evK,get_mask (x:=x) h1,get_mask (x:=v) h2]
 | mks a b c d e x v=>obtain ⟨h1,h2⟩:=m2 h; simp only [evK,get_mask (x:=x) h1,get_mask (x:=v) h2]
 | lk a b x v c=>obtain ⟨h1,h2⟩:=m2 h; simp only [evK,get_mask (x:=x) h1,get_mask (x:=v) h2]
 | me a b x v=>obtain ⟨h1,h2⟩:=m2 h; simp only [evK,get_mask (x:=x) h1,get_mask (x:=v) h2]
 | del a x v=>obtain ⟨h1,h2⟩:=m2 h; simp only [evK,get_mask (x:=x) h1,get_mask (x:=v) h2]
 | ixb a x v=>obtain ⟨h1,h2⟩:=m2 h; simp only [evK,get_mask (x:=x) h1,get_mask (x:=v) h2]
 | eqg a b x v=>obtain ⟨h1,h2⟩:=m2 h; simp only [evK,get_mask (x:=x) h1,get_mask (x:=v) h2]
 | mu a x v y =>
  obtain ⟨h1,h2⟩:=m2 h; obtain ⟨h3,h4⟩:=m2 h1; simp only [evK,get_mask (x:=x) h3,get_mask (x:=v) h4,get_mask (x:=y) h2]
 | mes x v y =>
  obtain ⟨h1,h2⟩:=m2 h; obtain ⟨h3,h4⟩:=m2 h1; simp only [evK,get_mask (x:=x) h3,get_mask (x:=v) h4,get_mask (x:=y) h2]
 | s2b a b x=>simp only [evK,get_mask (x:=x) h]
 | b2s x=>simp only [evK,get_mask (x:=x) h]
 | isn m n x=>simp only [evK,get_mask (x:=x) h]
 | eqi n x=>simp only [evK,get_mask (x:=x) h]
 | mv x=>simp only [evK,get_mask (x:=x) h]
 | mvg e z x=>simp only [evK,get_mask (x:=x) h]
 | bx x=>simp only [evK,get_mask (x:=x) h]
 | ld x n g=>simp only [evK,get_mask (x:=x) h]
 | nc x=>simp only [evK,get_mask (x:=x) h]
 | un op x=>simp only [evK,get_mask (x:=x) h]
 | cvi k x=>simp only [evK,get_mask (x:=x) h]
 | fa x n=>simp only [evK,get_mask (x:=x) h]
 | fld x n m g=>simp only [evK,get_mask (x:=x) h]
 | slz x=>simp only [evK,get_mask (x:=x) h]
 | ext x n=>simp only [evK,get_mask (x:=x) h]
 | len b x=>simp only [evK,get_mask (x:=x) h]
 | rng x=>simp only [evK,get_mask (x:=x) h]
 | ent x=>simp only [evK,get_mask (x:=x) h]
 | _=>simp only [evK]
theorem StepOk.masked {P:Program} {i:Ins} {s:List AV} {G G':List ABlk} {v:AV} (h:StepOk P i s G v G') {rd:List Nat} (hr:∀ t ∈ i.sl,t ∈ rd) :
 wpIns P [i] (mask rd s) G λs' G''=>s' = setO (mask rd s) i.dst v/\G'' = G':=by
 have hk:∀ t ∈ i.k.sl,t ∈ rd:=λt ht=>hr t (List.mem_append.2 (.inl ht))
 have hw:wanted (mask rd s) i.g = wanted s i.g:=by
  cases hg:i.g with
  | none=>rfl
  | some gb =>
   obtain ⟨g,b⟩:=gb; have:g ∈ rd:=hr g (List.mem_append.2 (.inr (by simp [hg]))); simp only [wanted,mask_get this]
 unfold StepOk at h
 split at h
 ·rename_i hwt
  simp only [wpIns,hw,hwt]
  split at h
  ·rename_i f args e
   rw [e] at hk; simp only [e,map_get_mask (l:=args) hk]; exact h.mono λv' G'' hh=>⟨by rw [hh.1],hh.2⟩
  ·rename_i g args e
   rw [e] at hk; have hg:get (mask rd s) g = get s g:=get_mask λt ht=>hk t (List.mem_append.2 (.inl ht))
   have ha:args.map (get (mask rd s)) = args.map (get s):=map_get_mask λt ht=>hk t (List.mem_append.2 (.inr ht))
   simp only [e,hg,ha]
   split at h
   ·rename_i hfn
    simp only [hfn]; exact ⟨h.1,h.2.mono λv' G'' hh=>⟨by rw [hh.1],hh.2⟩⟩
   ·rename_i hfn
    simp only [hfn]; exact ⟨h.1,h.2.mono λv' G'' hh=>⟨by rw [hh.1],hh.2⟩⟩
   ·exact h.elim
  ·rename_i tb x args e
   rw [e] at hk; have hg:get (mask rd s) x = get s x:=get_mask λt ht=>hk t (List.mem_append.2 (.inl ht))
   have ha:args.map (get (mask rd s)) = args.map (get s):=map_get_mask λt ht=>hk t (List.mem_append.2 (.inr ht))
   simp only [e,hg,ha]
   split at h
   ·rename_i hfn
    simp only [hfn]
    split at h
    ·rename_i hf
     simp only [hf]; exact h.mono λv' G'' hh=>⟨by rw [hh.1],hh.2⟩
    ·exact h.elim
   ·exact h.elim
  ·rename_i x1 x2 x3
   split
   ·rename_i f args e; exact (x1 f args e).elim
   ·rename_i g args e; exact (x2 g args e).elim
   ·rename_i tb x args e; exact (x3 tb x args e).elim
   ·rw [evK_mask hk,h]
    exact ⟨rfl,rfl⟩
 ·rename_i hwt
  simp only [wpIns,hw,hwt]; obtain ⟨rfl,rfl⟩:=h; exact ⟨rfl,rfl⟩
 ·exact h.elim
def kill (U:List Nat) (H:List ABlk):List ABlk:=U.foldl (λH b=>H.set b .dead) H
theorem kill_length:∀ (U:List Nat) (H:List ABlk),(kill U H).length = H.length
 | [],H=>rfl
 | b :: U,H=>by show (kill U (H.set b .dead)).length = _; rw [kill_length U]; simp
theorem kill_in:∀ (U:List Nat) (H:List ABlk) {b:Nat},b ∈ U->b < H.length->(kill U H)[b]? = some .dead
 | [],H,b,h,_=>by cases h
 | c :: U,H,b,h,hl=>by
  show (kill U (H.set c .dead))[b]? = _
  by_cases hb:b ∈ U
  ·exact kill_in U _ hb (by simpa using hl)
  ·rcases List.mem_cons.1 h with rfl | h
   ·have out : ∀ (U : List Nat) (H : List ABlk), b ∉ U -> (kill U H)[b]? = H[b]? := fun U => by
     induction U with
     | nil=>intro H _; rfl
     | cons c U ih =>
      intro H hn
      show (kill U (H.set c .dead))[b]? = _
      rw [ih _ (λh=>hn (List.mem_cons_of_mem _ h)),List.getElem?_set_ne (λe=>hn (by rw [e]; exact List.mem_cons_self))]
    rw [out U _ hb]; simp [hl]
   ·exact absurd h hb
theorem kill_out:∀ (U:List Nat) (H:List ABlk) {b:Nat},b ∉ U->(kill U H)[b]? = H[b]?
 | [],H,b,_=>rfl
 | c :: U,H,b,hn=>by
  show (kill U (H.set c .dead))[b]? = _
  rw [kill_out U _ (λh=>hn (List.mem_cons_of_mem _ h)),List.getElem?_set_ne (λe=>hn (by rw [e]; exact List.mem_cons_self))]
def DChain (P:Program) (ws U:List (List Nat)) (H0:List ABlk):Nat->List Ins->List AV->List ABlk->(List AV->List ABlk->Prop)->Prop
 | _,[],s,H,Kk=>Kk s H
 | j,i :: r,s,H,Kk=>∃ v H',StepOk P i s (kill (U.getD j []) H) v (kill (U.getD j []) H')/\(∀ b,b ∉ ws.getD j []->H'[b]? = H[b]?)/\H.length<=H'.length /\
  (∀ b ∈ ws.getD j [],b ∉ U.getD j []/\H0[b]? ≠ some .dead)/\DChain P ws U H0 (j + 1) r (setO s i.dst v) H' Kk
theorem DChain.seq {P:Program} {ws U:List (List Nat)} {H0:List ABlk} {Kk:List AV->List ABlk->Prop}:∀ (l:List Ins) (j:Nat) (s:List AV) (H:List ABlk),DChain P ws U H0 j l s H Kk ->
 ∃ (st:Nat->List AV) (Hs:Nat->List ABlk) (v:Nat->AV),st j = s/\Hs j = H/\(∀ k i,l[k]? = some i->StepOk P i (st (j + k)) (kill (U.getD (j + k) []) (Hs (j + k))) (v (j + k)) (kill (U.getD (j + k) []) (Hs (j + k + 1))) /\
  st (j + k + 1) = setO (st (j + k)) i.dst (v (j + k))/\(∀ b,b ∉ ws.getD (j + k) []->(Hs (j + k + 1))[b]? = (Hs (j + k))[b]?)/\(Hs (j + k)).length<=(Hs (j + k + 1)).length /\
  (∀ b ∈ ws.getD (j + k) [],b ∉ U.getD (j + k) []/\H0[b]? ≠ some .dead))/\Kk (st (j + l.length)) (Hs (j + l.length))
 | [],j,s,H,h=>⟨λ_=>s,λ_=>H,λ_=>.any,rfl,rfl,λk i hk=>by simp at hk,h⟩
 | i :: l,j,s,H,h=>by
  obtain ⟨v0,H',h1,h2,h3,h4,h5⟩:=h; obtain ⟨st,Hs,v,e1,e2,e3,e4⟩:=DChain.seq l (j + 1) _ H' h5; refine ⟨λk=>if k = j then s else st k,λk=>if k = j then H else Hs k,λk=>if k = j then v0 else v k,by simp,by simp,λk i' hk=>?_,?_⟩
  ·cases k with
   | zero =>
    simp at hk; subst hk; simp only [Nat.add_zero,if_true,show ¬ (j + 1 = j) by omega,if_false,e1,e2]; exact ⟨h1,trivial,h2,h3,h4⟩
   | succ k =>
    simp at hk; have:=e3 k i' hk; have n1:¬ (j + 1 + k = j):=by omega
    have n2:¬ (j + 1 + k + 1 = j):=by omega
    rw [show j + (k + 1) = j + 1 + k by omega]; simp only [n1,n2,if_false]; exact this
  ·have n1:¬ (j + 1 + l.length = j):=by omega
   rw [List.length_cons,show j + (l.length + 1) = j + 1 + l.length by omega]; simp only [n1,if_false]; exact e4
def wrOf (l:List Ins) (j:Nat):Option Nat:=(l[j]?).bind (·.dst)
def rdOf (l:List Ins) (j:Nat):List Nat:=((l[j]?).map Ins.sl).getD []
def drawOk (pr:List (List Nat)) (l:List Ins):Bool:=
 let an:=anc pr
 (List.range l.length).all fun j => (pr.getD j []).all (· < j) &&
   (List.range j).all fun i => (an.getD j []).contains i ||
     ((match wrOf l i with | some d=>!(rdOf l j).contains d && wrOf l j != some d | none=>true) &&
      (match wrOf l j with | some d=>!(rdOf l i).contains d | none=>true))
def killsOf (pr ws:List (List Nat)) (n j:Nat):List Nat:=
 let an:=anc pr
 (List.range n).flatMap λi=>if i == j || (an.getD j []).contains i || (an.getD i []).contains j then [] else ws.getD i []
structure Lex (P:Program) (pr ws U:List (List Nat)) (l:List Ins) (s:List AV) (H:List ABlk) (st:Nat->List AV) (Hs:Nat->List ABlk) (v:Nat->AV):Prop where
 st0:st 0 = s
 H0:Hs 0 = H
 stn:∀ k i,l[k]? = some i->st (k + 1) = setO (st k) i.dst (v k)
 fr:∀ k b,k < l.length->b ∉ ws.getD k []->(Hs (k + 1))[b]? = (Hs k)[b]?
 len:∀ k,k < l.length->(Hs k).length<=(Hs (k + 1)).length
 wsU:∀ k,k < l.length->∀ b ∈ ws.getD k [],b ∉ U.getD k []/\H[b]? ≠ some .dead
 ok:drawOk pr l = true
 kU:(List.range l.length).map (killsOf pr ws l.length) = U
section
variable {P:Program} {pr ws U:List (List Nat)} {l:List Ins} {s:List AV} {H:List ABlk} {st:Nat->List AV} {Hs:Nat->List ABlk} {v:Nat->AV}
theorem Lex.pred (X:Lex P pr ws U l s H st Hs v) {j i:Nat} (hj:j < l.length) (hi:i ∈ pr.getD j []):i < j:=by
 have:=X.ok; simp only [drawOk,List.all_eq_true,List.mem_range,Bool.and_eq_true,decide_eq_true_eq] at this; exact (this j hj).1 i hi
theorem Lex.anc_lt (X:Lex P pr ws U l s H st Hs v) {j k:Nat} (h:Reach pr j k) (hj:j < l.length):k < j:=by
 induction h with
 | one h=>exact X.pred hj h
 | more h _ ih=>have h1:=X.pred hj h; have:=ih (by omega); omega
theorem Lex.slots (X:Lex P pr ws U l s H st Hs v) {i j:Nat} (hj:j < l.length) (hij:i < j):i ∈ ancOf pr j \/
 ((∀ d,wrOf l i = some d->d ∉ rdOf l j/\wrOf l j ≠ some d)/\∀ d,wrOf l j = some d->d ∉ rdOf l i):=by
 have:=X.ok; simp only [drawOk,List.all_eq_true,List.mem_range,Bool.and_eq_true] at this; have h:=(this j hj).2 i hij; simp only [Bool.or_eq_true,List.contains_iff_mem,Bool.and_eq_true] at h; rcases h with h | ⟨h1,h2⟩
 ·exact .inl h
 ·refine .inr ⟨λd hd=>?_,λd hd=>?_⟩
  ·rw [hd] at h1
   simpa using h1
  ·rw [hd] at h2
   simpa using h2
theorem Lex.uns (X:Lex P pr ws U l s H st Hs v) {i j b:Nat} (hi:i < l.length) (hj:j < l.length) (hne:i ≠ j) (h1:i ∉ ancOf pr j) (h2:j ∉ ancOf pr i) (hb:b ∈ ws.getD i []):b ∈ U.getD j []:=by
 rw [<- X.kU]; simp only [gDd,List.getElem?_map,List.getElem?_range hj,Option.map_some,Option.getD_some,killsOf,List.mem_flatMap,List.mem_range]; refine ⟨i,hi,?_⟩; have e1:(i == j) = false:=by simpa using hne
 have e2:((anc pr).getD j []).contains i = false:=by simpa [ancOf] using h1
 have e3:((anc pr).getD i []).contains j = false:=by simpa [ancOf] using h2
 simp only [gDd] at e2 e3; simp only [e1,e2,e3,Bool.or_false,Bool.false_eq_true,if_false]
 simpa using hb
theorem Lex.mono (X:Lex P pr ws U l s H st Hs v):∀ {k m:Nat},k<=m->m<=l.length->(Hs k).length<=(Hs m).length:=by
 intro k m hkm hm
 induction m with
 | zero => have : k = 0 := by omega
           subst this; exact Nat.le_refl _
 | succ m ih =>
  rcases Nat.lt_or_ge k (m + 1) with h | h
  ·exact Nat.le_trans (ih (by omega) (by omega)) (X.len m (by omega))
  ·have:k = m + 1:=by omega
   subst this; exact Nat.le_refl _
def At (ws:List (List Nat)) (H:List ABlk) (Hs:Nat->List ABlk) (L:Nat->Prop) (b:Nat) (blk:ABlk) (m:Nat):Prop:=
 (∃ k,L k/\b ∈ ws.getD k []/\(∀ k',L k'->b ∈ ws.getD k' []->k'<=k)/\(Hs (k + 1))[b]? = some blk/\m = (Hs (k + 1)).length)\/((∀ k,L k->b ∉ ws.getD k [])/\H[b]? = some blk/\m = H.length)
theorem At.lt {L:Nat->Prop} {b:Nat} {blk:ABlk} {m:Nat} (h:At ws H Hs L b blk m):b < m:=by
 rcases h with ⟨k,_,_,_,h,rfl⟩ | ⟨_,h,rfl⟩ <;> exact (List.getElem?_eq_some_iff.1 h).1
theorem At.uniq {L:Nat->Prop} {b:Nat} {blk blk':ABlk} {m m':Nat} (h:At ws H Hs L b blk m) (h':At ws H Hs L b blk' m'):blk = blk'/\m = m':=by
 rcases h with ⟨k,a1,a2,a3,a4,rfl⟩ | ⟨a1,a2,rfl⟩ <;> rcases h' with ⟨k',b1,b2,b3,b4,rfl⟩ | ⟨b1,b2,rfl⟩
 ·have:k = k':=Nat.le_antisymm (b3 k a1 a2) (a3 k' b1 b2)
  subst this; rw [a4] at b4; cases b4; exact ⟨rfl,rfl⟩
 ·exact absurd a2 (b1 k a1)
 ·exact absurd b2 (a1 k' b1)
 ·rw [a2] at b2; cases b2; exact ⟨rfl,rfl⟩
theorem Lex.hist (X:Lex P pr ws U l s H st Hs v) {b:Nat}:∀ {j:Nat},j<=l.length->∀ {blk:ABlk},(Hs j)[b]? = some blk->∃ m,m<=(Hs j).length/\At ws H Hs (· < j) b blk m:=by
 intro j
 induction j with
 | zero=>intro _ blk h; rw [X.H0] at h; exact ⟨H.length,by rw [X.H0]; exact Nat.le_refl _,.inr ⟨λk hk=>by omega,h,rfl⟩⟩
 | succ j ih =>
  intro hj blk h
  by_cases hb:b ∈ ws.getD j []
  ·exact ⟨_,Nat.le_refl _,.inl ⟨j,by omega,hb,λk' hk' _=>by omega,h,rfl⟩⟩
  ·rw [X.fr j b (by omega) hb] at h
   obtain ⟨m,hm,hA⟩:=ih (by omega) h; refine ⟨m,Nat.le_trans hm (X.len j (by omega)),?_⟩; rcases hA with ⟨k,a1,a2,a3,a4,a5⟩ | ⟨a1,a2,a3⟩
   ·refine .inl ⟨k,by omega,a2,λk' hk' hb'=>?_,a4,a5⟩
    rcases Nat.lt_or_ge k' j with hl | hl
    ·exact a3 k' hl hb'
    ·have:k' = j:=by omega
     subst this; exact absurd hb' hb
   ·refine .inr ⟨λk hk=>?_,a2,a3⟩
    rcases Nat.lt_or_ge k j with hl | hl
    ·exact a1 k hl
    ·have:k = j:=by omega
     subst this; exact hb
theorem At.congr {L L':Nat->Prop} {b:Nat} {blk:ABlk} {m:Nat} (h:At ws H Hs L b blk m) (hL:∀ k,b ∈ ws.getD k []->(L k ↔ L' k)):At ws H Hs L' b blk m:=by
 rcases h with ⟨k,a1,a2,a3,a4,a5⟩ | ⟨a1,a2,a3⟩
 ·exact .inl ⟨k,(hL k a2).1 a1,a2,λk' hk' hb'=>a3 k' ((hL k' hb').2 hk') hb',a4,a5⟩
 ·exact .inr ⟨λk hk hb=>a1 k ((hL k hb).2 hk) hb,a2,a3⟩
def SlAt (l:List Ins) (s:List AV) (H:List ABlk) (Hs:Nat->List ABlk) (v:Nat->AV) (L:Nat->Prop) (t:Nat) (x:AV) (m:Nat):Prop:=
 (∃ k,L k/\wrOf l k = some t/\(∀ k',L k'->wrOf l k' = some t->k'<=k)/\x = v k/\m = (Hs (k + 1)).length)\/((∀ k,L k->wrOf l k ≠ some t)/\x = s.getD t .any/\m = H.length)
theorem SlAt.congr {L L':Nat->Prop} {t:Nat} {x:AV} {m:Nat} (h:SlAt l s H Hs v L t x m) (hL:∀ k,wrOf l k = some t->(L k ↔ L' k)):SlAt l s H Hs v L' t x m:=by
 rcases h with ⟨k,a1,a2,a3,a4,a5⟩ | ⟨a1,a2,a3⟩
 ·exact .inl ⟨k,(hL k a2).1 a1,a2,λk' hk' hb'=>a3 k' ((hL k' hb').2 hk') hb',a4,a5⟩
 ·exact .inr ⟨λk hk hb=>a1 k ((hL k hb).2 hk) hb,a2,a3⟩
theorem Lex.stlen (X:Lex P pr ws U l s H st Hs v):∀ {j:Nat},j<=l.length->(st j).length = s.length:=by
 intro j
 induction j with
 | zero=>intro _; rw [X.st0]
 | succ j ih =>
  intro hj
  have hi:l[j]? = some (l[j]'(by omega)):=gEe (by omega); rw [X.stn j _ hi]
  cases l[j].dst <;> simp [setO,ih (by omega)]
theorem Lex.shist (X:Lex P pr ws U l s H st Hs v) {t:Nat} (ht:t < s.length):∀ {j:Nat},j<=l.length->∃ m,m<=(Hs j).length/\SlAt l s H Hs v (· < j) t ((st j).getD t .any) m:=by
 intro j
 induction j with
 | zero=>intro _; exact ⟨H.length,by rw [X.H0]; exact Nat.le_refl _,.inr ⟨λk hk=>by omega,by rw [X.st0],rfl⟩⟩
 | succ j ih =>
  intro hj
  have hi:l[j]? = some (l[j]'(by omega)):=gEe (by omega); have hst:=X.stn j _ hi; have hsl:=X.stlen (j:=j) (by omega)
  by_cases hb:wrOf l j = some t
  ·refine ⟨_,Nat.le_refl _,.inl ⟨j,by omega,hb,λk' hk' _=>by omega,?_,rfl⟩⟩
   have hd:l[j].dst = some t:=by simpa [wrOf,hi] using hb
   rw [hst,hd]; simp [setO,hsl,ht]
  ·obtain ⟨m,hm,hA⟩:=ih (by omega)
   refine ⟨m,Nat.le_trans hm (X.len j (by omega)),?_⟩; have hsame:(st (j + 1)).getD t .any = (st j).getD t .any:=by
    rw [hst]
    cases hd:l[j].dst with
    | none=>rfl
    | some d =>
     have:d ≠ t:=λe=>hb (by simp [wrOf,hi,hd,e])
     simp only [setO,gDd,List.getElem?_set_ne this]
   rw [hsame]; rcases hA with ⟨k,a1,a2,a3,a4,a5⟩ | ⟨a1,a2,a3⟩
   ·refine .inl ⟨k,by omega,a2,λk' hk' hb'=>?_,a4,a5⟩
    rcases Nat.lt_or_ge k' j with hl | hl
    ·exact a3 k' hl hb'
    ·have:k' = j:=by omega
     subst this; exact absurd hb' hb
   ·refine .inr ⟨λk hk=>?_,a2,a3⟩
    rcases Nat.lt_or_ge k j with hl | hl
    ·exact a1 k hl
    ·have:k = j:=by omega
     subst this; exact hb
theorem trunc_le {σ:Sg} {m m':Nat} (h:m<=m'):(σ.trunc m).le (σ.trunc m'):=⟨λ_ _ h=>h,λb n v hv=>by
 have hv':(if b < m then σ.φ b n else none) = some v:=hv
 show (if b < m' then σ.φ b n else none) = some v
 split at hv'
 ·rw [if_pos (by omega)]; exact hv'
 ·(cases hv'),rfl⟩
theorem trunc_le_self {σ:Sg} {m:Nat}:(σ.trunc m).le σ:=⟨λ_ _ h=>h,λb n v hv=>by
 have hv':(if b < m then σ.φ b n else none) = some v:=hv
 split at hv'
 ·exact hv'
 ·(cases hv'),rfl⟩
theorem trunc_mono {σ σ':Sg} (hM:∀ a v,σ.M a = some v->σ'.M a = some v) {m:Nat} (hφ:∀ b n v,b < m->σ.φ b n = some v->σ'.φ b n = some v) (hD:σ'.D = σ.D):(σ.trunc m).le (σ'.trunc m):=⟨hM,λb n v hv=>by
 have hv':(if b < m then σ.φ b n else none) = some v:=hv
 show (if b < m then σ'.φ b n else none) = some v
 split at hv'
 ·rename_i hb; rw [if_pos hb]; exact hφ b n v hb hv'
 ·(cases hv'),hD⟩
theorem trunc_φ {σ:Sg} {m b n:Nat} (h:b < m):(σ.trunc m).φ b n = σ.φ b n:=if_pos h
theorem trunc_φ_ge {σ:Sg} {m b n:Nat} (h:m<=b):(σ.trunc m).φ b n = none:=if_neg (by omega)
theorem VR.trunc_refs {σ:Sg} {m:Nat} {x:AV} {u:Value} (hv:VR (σ.trunc m) x u):∀ r ∈ refs x,r < m:=by
 have key:∀ b k v,(σ.trunc m).φ b k = some v->b < m:=λb k v hb=>by
  rcases Nat.lt_or_ge b m with hl | hl
  ·exact hl
  ·rw [trunc_φ_ge hl] at hb; cases hb
 have lst:∀ (cs:List AV) (us:List Value),cs.length = us.length->(∀ (i:Nat) (c:AV) (u:Value),cs[i]? = some c->us[i]? = some u->∀ r ∈ refs c,r < m)->∀ r ∈ refs.refsL cs,r < m:=by
  intro cs
  induction cs with
  | nil=>intro us _ _ r hr; simp [refs.refsL] at hr
  | cons c cs ih =>
   intro us hl hh r hr
   match us,hl with
   | u :: us,hl =>
    simp only [refs.refsL,List.mem_append] at hr; rcases hr with hr | hr
    ·exact hh 0 c u rfl rfl r hr
    ·exact ih us (by simpa using hl) (λi c' u' h1 h2=>hh (i + 1) c' u' (by simpa using h1) (by simpa using h2)) r hr
 induction hv with
 | ptr h=>intro r hr; simp [refs] at hr; subst hr; exact key _ _ _ h
 | gsl h _ _=>intro r hr; simp [refs] at hr; subst hr; exact key _ _ _ h
 | hsl h _ _ _ _ _=>intro r hr; simp [refs] at hr; subst hr; exact key _ _ _ h
 | hsl0 h=>intro r hr; simp [refs] at hr; subst hr; exact key _ _ _ h
 | mp h=>intro r hr; simp [refs] at hr; subst hr; exact key _ _ _ h
 | fn h1 _ ih=>exact lst _ _ h1 ih
 | fnb h1 _ ih=>exact lst _ _ h1 ih
 | ifc _ ih=>exact λr hr=>ih r (by simpa [refs] using hr)
 | agg h1 _ ih=>exact lst _ _ h1 ih
 | tup h1 _ ih=>exact lst _ _ h1 ih
 | _=>intro r hr; simp [refs] at hr
theorem BR.trunc_refs {σ:Sg} {m:Nat} {w:World} {b:Nat} {k:ABlk} (h:BR (σ.trunc m) w b k):∀ r ∈ k.refs,r < m:=by
 have lst:∀ (cs:List AV) (us:List Value),VRs (σ.trunc m) cs us->∀ r ∈ refs.refsL cs,r < m:=λcs us hv =>
  VR.trunc_refs (.agg hv.1 hv.2:VR (σ.trunc m) (.agg cs) (.agg us.toArray))
 cases k with
 | cells cs =>
  rcases h with ⟨g,vs,t,_,_,_,h3,_⟩ | ⟨rfl,_⟩
  ·exact lst _ _ h3
  ·intro r hr; simp [ABlk.refs,refs.refsL] at hr
 | map kt ck es=>obtain ⟨g,ms,_,_,h3,_⟩:=h; exact lst _ _ h3
 | iter m' since seen last =>
  obtain ⟨g,gm,_,h2,_⟩:=h
  intro r hr
  have:r = m':=by simpa [ABlk.refs] using hr
  subst this; have h2:(if r < m then σ.φ r 0 else none) = some (.map (some gm)):=h2
  split at h2
  ·assumption
  ·cases h2
 | _=>intro r hr; simp [ABlk.refs] at hr
theorem BR.trunc {σ:Sg} {m:Nat} {w:World} {b:Nat} {k:ABlk} (h:BR σ w b k) (hb:b < m) (hr:∀ r ∈ k.refs,r < m):BR (σ.trunc m) w b k:=by
 cases k with
 | free=>exact λn=>by rw [trunc_φ hb]; exact h n
 | dead=>trivial
 | cells cs =>
  rcases h with ⟨g,vs,t,h1,h1',h2,h3,h4⟩ | ⟨h0,v,h1,h2⟩
  ·exact .inl ⟨g,vs,t,by rw [trunc_φ hb]; exact h1,by rw [trunc_φ hb]; exact h1',h2,h3.trunc hr,h4⟩
  ·exact .inr ⟨h0,v,by rw [trunc_φ hb]; exact h1,h2⟩
 | row e sz n =>
  obtain ⟨v,xs,h1,h2,h3,h4⟩:=h; exact ⟨v,xs,by rw [trunc_φ hb]; exact h1,h2,λm' hm=>by rw [trunc_φ hb]; exact h3 m' hm,h4⟩
 | map kt ck es =>
  obtain ⟨g,ms,h1,h2,h3,h4⟩:=h; exact ⟨g,ms,by rw [trunc_φ hb]; exact h1,h2,h3.trunc hr,h4⟩
 | bld t =>
  obtain ⟨g,h1,h1',h2⟩:=h; exact ⟨g,by rw [trunc_φ hb]; exact h1,by rw [trunc_φ hb]; exact h1',h2⟩
 | iter m' since seen last =>
  obtain ⟨g,gm,h1,h1',h2⟩:=h; exact ⟨g,gm,by rw [trunc_φ hb]; exact h1,by rw [trunc_φ (hr m' (by simp [ABlk.refs]))]; exact h1',h2⟩
structure DInv (l:List Ins) (ws:List (List Nat)) (s:List AV) (H:List ABlk) (Hs:Nat->List ABlk) (v:Nat->AV) (σb:Sg) (w0:World) (L:Nat->Prop) (σ:Sg) (a:Act) (w:World):Prop where
 defers:a.defers = σ.D
 size:a.tmps.size = s.length
 mem:MemOk σ.M w
 slot:∀ t x m,t < s.length->SlAt l s H Hs v L t x m->VR (σ.trunc m) x (a.tmps.getD t undef)
 blk:∀ b blk m,At ws H Hs L b blk m->BR (σ.trunc m) w b blk
 none:∀ b n,H.length<=b->(∀ k,L k->¬ ((Hs k).length<=b/\b < (Hs (k + 1)).length))->σ.φ b n = none
 inj:∀ b b' k k' m m' u u' g,At ws H Hs L b k m->At ws H Hs L b' k' m'->k.live = true->k'.live = true->σ.φ b k.ver = some u->σ.φ b' k'.ver = some u'->conc u = some g->conc u' = some g->b = b'
 M:∀ p u,σb.M p = some u->σ.M p = some u
 φ:∀ b n u,b < H.length->σb.φ b n = some u->σ.φ b n = some u
 os:w.os = w0.os
 tape:w.tape = w0.tape
 output:w.output = w0.output
 wsize:w0.heap.size<=w.heap.size
 frame:∀ k,k < w0.heap.size->¬ foot σb H k->w.heap[k]? = w0.heap[k]?
 foot:∀ b blk m u k,At ws H Hs L b blk m->blk.live = true->σ.φ b blk.ver = some u->conc u = some k->Go.Proofs.YtofpekbidngnfaaGreatDoor.foot σb H k\/w0.heap.size<=k
 new:∀ p,σ.M p ≠ σb.M p->Go.Proofs.YtofpekbidngnfaaGreatDoor.foot σb H p.block\/w0.heap.size<=p.block
 dead:∀ b n,H[b]? = some .dead->σ.φ b n = σb.φ b n
 D:σ.D = σb.D
theorem DInv.start {σb:Sg} {a:Act} {w0:World} (h:HR σb H w0) (hs:SS σb s a):DInv l ws s H Hs v σb w0 (λ_=>False) σb a w0:=by
 have hall:∀ b blk m,At ws H Hs (λ_=>False) b blk m->H[b]? = some blk/\m = H.length:=by
  intro b blk m hA
  rcases hA with ⟨k,hk,_⟩ | ⟨_,h1,h2⟩
  ·exact hk.elim
  ·exact ⟨h1,h2⟩
 have hle:∀ {x:AV} {u:Value},VR σb x u->VR (σb.trunc H.length) x u:=λhv=>hv.trunc (VR.refs_lt h hv)
 refine ⟨hs.defers,by have:=hs.tmps.1; simpa using this.symm,h.mem,λt x m ht hA=>?_,λb blk m hA=>?_,λb n hb _=>h.fresh b n hb,λb b' k k' m m' u u' g hA hA'=>?_,λ_ _ h=>h,λ_ _ _ _ h=>h,rfl,rfl,rfl,Nat.le_refl _,λ_ _ _=>rfl,λb blk m u k hA hl hu hc=>?_,λp hp=>absurd rfl hp,λ_ _ _=>rfl,rfl⟩
 ·rcases hA with ⟨k,hk,_⟩ | ⟨_,rfl,rfl⟩
  ·exact hk.elim
  ·have:=hs.tmps.getD t undef
   exact hle (by simpa using this)
 ·obtain ⟨h1,rfl⟩:=hall _ _ _ hA
  exact (h.blk b blk h1).trunc (List.getElem?_eq_some_iff.1 h1).1 (h.refs_lt h1)
 ·exact h.inj b b' k k' u u' g (hall _ _ _ hA).1 (hall _ _ _ hA').1
 ·exact .inl ⟨b,blk,u,(hall _ _ _ hA).1,hl,hu,hc⟩
theorem Lex.deadH (X:Lex P pr ws U l s H st Hs v) {b:Nat} (hb:H[b]? = some .dead):∀ {j:Nat},j<=l.length->(Hs j)[b]? = some .dead:=by
 intro j
 induction j with
 | zero=>intro _; rw [X.H0]; exact hb
 | succ j ih =>
  intro hj
  have:b ∉ ws.getD j []:=λh=>(X.wsU j (by omega) b h).2 hb
  rw [X.fr j b (by omega) this]; exact ih (by omega)
theorem Lex.alloc (X:Lex P pr ws U l s H st Hs v) {b:Nat} (h0:H.length<=b):∀ {j:Nat},j<=l.length->b < (Hs j).length->∃ k,k < j/\(Hs k).length<=b/\b < (Hs (k + 1)).length:=by
 intro j
 induction j with
 | zero=>intro _ h; rw [X.H0] at h; omega
 | succ j ih =>
  intro hj h
  rcases Nat.lt_or_ge b (Hs j).length with hl | hl
  ·obtain ⟨k,a,b',c⟩:=ih (by omega) hl
   exact ⟨k,by omega,b',c⟩
  ·exact ⟨j,by omega,hl,h⟩
theorem Lex.newWs (X:Lex P pr ws U l s H st Hs v) {b j:Nat} (hj:j < l.length) (h1:(Hs j).length<=b) (h2:b < (Hs (j + 1)).length):b ∈ ws.getD j []:=by
 by_cases h:b ∈ ws.getD j []
 ·exact h
 ·have:=X.fr j b hj h
  rw [List.getElem?_eq_none h1,List.getElem?_eq_none_iff] at this; omega
theorem compIns_dst {P:Program} {hint:Nat->Option Md} {ops:Array Oper} {o:Oper} {i:Ins} (hc:compIns P hint ops o = some i):i.dst = o.dst:=by
 unfold compIns at hc
 split at hc
 ·cases hc
 ·split at hc
  ·cases hc; rfl
  ·split at hc
   ·cases hc; rfl
   ·cases hc
structure Seen (P:Program) (ws U:List (List Nat)) (H:List ABlk) (st:Nat->List AV) (Hs:Nat->List ABlk) (v:Nat->AV) (L:Nat->Prop) (j:Nat) (i:Ins) (G G':List ABlk):Prop where
 step:StepOk P i (st j) G (v j) G'
 len:G.length = (Hs j).length
 len':G'.length = (Hs (j + 1)).length
 at_:∀ b k,G[b]? = some k->k ≠ .dead->∃ m,m<=(Hs j).length/\At ws H Hs L b k m
 own:∀ b,b ∈ ws.getD j []->G'[b]? = (Hs (j + 1))[b]?
 oth:∀ b,b ∉ ws.getD j []->b < (Hs j).length->G'[b]? = G[b]?
 hid:∀ b,b ∈ U.getD j []->H.length<=b->b < (Hs j).length->G[b]? = some .dead
theorem Lex.hord (X:Lex P pr ws U l s H st Hs v) {L:Nat->Prop} (hL:∀ i,L i->i < l.length) (hdc:∀ i,L i->∀ k ∈ pr.getD i [],L k) {j:Nat} (hjl:j < l.length) (hnj:¬ L j) (hpj:∀ k ∈ pr.getD j [],L k) :
 ∀ {b k:Nat},b ∉ U.getD j []->b ∈ ws.getD k []->k < l.length->k ≠ j->(L k ↔ k < j):=by
 have hancL:∀ k ∈ ancOf pr j,L k:=λk hk=>reach_closed hdc (anc_reach pr j k hk) hpj
 have hancLt:∀ {i k:Nat},i < l.length->k ∈ ancOf pr i->k < i:=λhi hk=>X.anc_lt (anc_reach pr _ _ hk) hi
 have hnanc:∀ {k:Nat},L k->j ∉ ancOf pr k:=λ{k} hk hjk=>hnj (reach_closed hdc (anc_reach pr k j hjk) (hdc k hk))
 intro b k hb hk hkl hne
 by_cases h1:k ∈ ancOf pr j
 ·exact ⟨λ_=>hancLt hjl h1,λ_=>hancL k h1⟩
 ·by_cases h2:j ∈ ancOf pr k
  ·have:=hancLt hkl h2
   exact ⟨λh=>absurd h2 (hnanc h),λh=>by omega⟩
  ·exact absurd (X.uns hkl hjl hne h1 h2 hk) hb
theorem Lex.hcont (X:Lex P pr ws U l s H st Hs v) {L:Nat->Prop} (hL:∀ i,L i->i < l.length) (hdc:∀ i,L i->∀ k ∈ pr.getD i [],L k) {j:Nat} (hjl:j < l.length) (hnj:¬ L j) (hpj:∀ k ∈ pr.getD j [],L k) :
 ∀ {b:Nat} {blk:ABlk},b ∉ U.getD j []->(Hs j)[b]? = some blk->∃ m,m<=(Hs j).length/\At ws H Hs L b blk m:=by
 intro b blk hb h
 obtain ⟨m,hm,hA⟩:=X.hist (Nat.le_of_lt hjl) h; refine ⟨m,hm,hA.congr λk hk=>?_⟩
 by_cases e:k = j
 ·subst e; exact ⟨λh=>by omega,λh=>absurd h hnj⟩
 ·rcases Nat.lt_or_ge k l.length with hkl | hkl
  ·exact (X.hord hL hdc hjl hnj hpj hb hk hkl e).symm
  ·exact ⟨λh=>by omega,λh=>by have:=hL k h; omega⟩
theorem Lex.hard (X:Lex P pr ws U l s H st Hs v) {L:Nat->Prop} (hL:∀ i,L i->i < l.length) (hdc:∀ i,L i->∀ k ∈ pr.getD i [],L k) {j:Nat} {i:Ins} (hjl:j < l.length) (hnj:¬ L j) (hpj:∀ k ∈ pr.getD j [],L k)
 (hs:StepOk P i (st j) (kill (U.getD j []) (Hs j)) (v j) (kill (U.getD j []) (Hs (j + 1)))):Seen P ws U H st Hs v L j i (kill (U.getD j []) (Hs j)) (kill (U.getD j []) (Hs (j + 1))):=by
 refine ⟨hs,kill_length _ _,kill_length _ _,λb k hb hk=>?_,λb hb=>?_,λb hb hlt=>?_,λb hb _ hlt=>kill_in _ _ hb hlt⟩
 ·have hlt:b < (Hs j).length:=by rw [<- kill_length (U.getD j [])]; exact (List.getElem?_eq_some_iff.1 hb).1
  by_cases hU:b ∈ U.getD j []
  ·rw [kill_in _ _ hU hlt] at hb; cases hb; exact absurd rfl hk
  ·rw [kill_out _ _ hU] at hb; exact X.hcont hL hdc hjl hnj hpj hU hb
 ·rw [kill_out _ _ (X.wsU j hjl b hb).1]
 ·by_cases hU:b ∈ U.getD j []
  ·rw [kill_in _ _ hU hlt,kill_in _ _ hU (Nat.lt_of_lt_of_le hlt (X.len j hjl))]
  ·rw [kill_out _ _ hU,kill_out _ _ hU,X.fr j b hjl hb]
theorem Lex.soft (X:Lex P pr ws U l s H st Hs v) {L:Nat->Prop} (hL:∀ i,L i->i < l.length) (hdc:∀ i,L i->∀ k ∈ pr.getD i [],L k) {j:Nat} {i:Ins} (hjl:j < l.length) (hnj:¬ L j) (hpj:∀ k ∈ pr.getD j [],L k)
 (b0:Nat) (x:ABlk) (hb0:b0 < H.length) (hw:ws.getD j [] = []) (hU:U.getD j [] = [b0]) (hHs:Hs (j + 1) = Hs j) (hbef:∀ k,k < j->b0 ∉ ws.getD k [])
 (hq:∀ q,j < q->q < l.length->b0 ∈ ws.getD q []->j ∉ ancOf pr q->(Hs (q + 1))[b0]? = some x/\(Hs (q + 1)).length = H.length)
 (h1:StepOk P i (st j) (Hs j) (v j) (Hs j)) (h2:StepOk P i (st j) ((Hs j).set b0 x) (v j) ((Hs j).set b0 x)):∃ G G',Seen P ws U H st Hs v L j i G G':=by
 have hH0:H.length<=(Hs j).length:=by have:=X.mono (Nat.zero_le j) (Nat.le_of_lt hjl); rwa [X.H0] at this
 have hnanc:∀ {k:Nat},L k->j ∉ ancOf pr k:=λ{k} hk hjk=>hnj (reach_closed hdc (anc_reach pr k j hjk) (hdc k hk))
 have hout:∀ b,b ≠ b0->b ∉ U.getD j []:=λb hb=>by rw [hU]; simpa using hb
 by_cases hex:∃ q,L q/\b0 ∈ ws.getD q []
 ·obtain ⟨q0,hq0,hq1⟩:=hex
  have hgt:∀ q,L q->b0 ∈ ws.getD q []->j < q:=λq hLq hb=>by
   rcases Nat.lt_trichotomy q j with h | h | h
   ·exact absurd hb (hbef q h)
   ·exact absurd (h ▸ hLq) hnj
   ·exact h
  -- the last one that came up
  have hmax:∀ n,∃ q,L q/\b0 ∈ ws.getD q []/\∀ q',L q'->b0 ∈ ws.getD q' []->q'<=n->q'<=q:=by
   intro n
   induction n with
   | zero=>exact ⟨q0,hq0,hq1,λq' h h' h0=>by omega⟩
   | succ n ih =>
    obtain ⟨q,a,b,c⟩:=ih
    by_cases h:L (n + 1)/\b0 ∈ ws.getD (n + 1) []
    ·rcases Nat.lt_or_ge (n + 1) q with hl | hl
     ·exact ⟨q,a,b,λq' e f g=>by omega⟩
     ·exact ⟨n + 1,h.1,h.2,λq' e f g=>g⟩
    ·refine ⟨q,a,b,λq' e f g=>?_⟩
     rcases Nat.lt_or_ge n q' with hl | hl
     ·have:q' = n + 1:=by omega
      subst this; exact absurd ⟨e,f⟩ h
     ·exact c q' e f hl
  obtain ⟨q,a1,a2,a3⟩:=hmax l.length; obtain ⟨e1,e2⟩:=hq q (hgt q a1 a2) (hL q a1) a2 (hnanc a1); refine ⟨_,_,h2,by simp,by rw [hHs]; simp,λb k hb hk=>?_,λb hb=>by rw [hw] at hb; simp at hb,λb _ _=>rfl,λb hb hge _=>?_⟩
  ·by_cases e:b = b0
   ·subst e
    rw [List.getElem?_set_self (by omega)] at hb
    cases hb
    exact ⟨_,by rw [e2]; exact hH0,.inl ⟨q,a1,a2,λk' hk' hb'=>a3 k' hk' hb' (Nat.le_of_lt (hL k' hk')),e1,rfl⟩⟩
   ·rw [List.getElem?_set_ne (Ne.symm e)] at hb
    exact X.hcont hL hdc hjl hnj hpj (hout b e) hb
  ·rw [hU] at hb
   have:b = b0:=by simpa using hb
   omega
 ·refine ⟨_,_,h1,rfl,by rw [hHs],λb k hb hk=>?_,λb hb=>by rw [hw] at hb; simp at hb,λb _ _=>rfl,λb hb hge _=>?_⟩
  ·by_cases e:b = b0
   ·subst e
    obtain ⟨m,hm,hA⟩:=X.hist (Nat.le_of_lt hjl) hb; exact ⟨m,hm,hA.congr λk hk=>⟨λh=>absurd hk (hbef k h),λh=>absurd ⟨k,h,hk⟩ hex⟩⟩
   ·exact X.hcont hL hdc hjl hnj hpj (hout b e) hb
  ·rw [hU] at hb
   have:b = b0:=by simpa using hb
   omega
theorem DInv.next (X:Lex P pr ws U l s H st Hs v) {hint:Nat->Option Md} {ops:Array Oper} {σb:Sg} {w0:World} {L:Nat->Prop} {σ:Sg} {a:Act} {w:World}
 (I:DInv l ws s H Hs v σb w0 L σ a w) (hL:∀ i,L i->i < l.length) (hdc:∀ i,L i->∀ k ∈ pr.getD i [],L k) {j:Nat} {i:Ins} {o:Oper} (hj:l[j]? = some i) (ho:ops[j]? = some o) (hc:compIns P hint ops o = some i)
 (hnj:¬ L j) (hpj:∀ k ∈ pr.getD j [],L k) {G G':List ABlk} (hS:Seen P ws U H st Hs v L j i G G') {K:Act->World->Prop} {Q:Exit->Act->World->Prop} (hK:∀ σ' a' w',DInv l ws s H Hs v σb w0 (λk=>L k\/k = j) σ' a' w'->K a' w'):wpOp P ops Q j K a w:=by
 have hjl:j < l.length:=(List.getElem?_eq_some_iff.1 hj).1; have hancL:∀ k ∈ ancOf pr j,L k:=λk hk=>reach_closed hdc (anc_reach pr j k hk) hpj
 have hancLt:∀ {i k:Nat},i < l.length->k ∈ ancOf pr i->k < i:=λhi hk=>X.anc_lt (anc_reach pr _ _ hk) hi
 have hnanc:∀ {k:Nat},L k->j ∉ ancOf pr k:=λ{k} hk hjk=>hnj (reach_closed hdc (anc_reach pr k j hjk) (hdc k hk))
 have hlen:(Hs j).length<=(Hs (j + 1)).length:=X.len j hjl; have hH0:H.length<=(Hs j).length:=by have:=X.mono (Nat.zero_le j) (Nat.le_of_lt hjl); rwa [X.H0] at this
 have hord:∀ {b k:Nat},b ∉ U.getD j []->b ∈ ws.getD k []->k < l.length->k ≠ j->(L k ↔ k < j):=X.hord hL hdc hjl hnj hpj; have hrd:rdOf l j = i.sl:=by simp [rdOf,hj]
 -- what the operation sees
 have hSS:SS (σ.trunc (Hs j).length) (mask i.sl (st j)) a:=by
  have hstl:=X.stlen (Nat.le_of_lt hjl); refine ⟨I.defers,⟨by have:=I.size; rw [mask_length,hstl]; simpa using this.symm,λt c u hcc hu=>?_⟩⟩; have ht:t < s.length:=by
   rw [<- hstl,<- mask_length i.sl (st j)]; exact (List.getElem?_eq_some_iff.1 hcc).1
  have hu':a.tmps.getD t undef = u:=by
   have:a.tmps[t]? = some u:=by simpa using hu
   simp [this]
  by_cases hts:t ∈ i.sl
  ·have hcv : c = (st j).getD t .any := by
    have:=mask_get (s:=st j) hts; rw [<- this]; simp [hcc]
   obtain ⟨m,hm,hA⟩:=X.shist ht (Nat.le_of_lt hjl); have hA':SlAt l s H Hs v L t ((st j).getD t .any) m:=hA.congr λk hk=>by
    have hkl:k < l.length:=by
     rcases Nat.lt_or_ge k l.length with h | h
     ·exact h
     ·simp [wrOf,List.getElem?_eq_none h] at hk
    rcases Nat.lt_trichotomy k j with h | h | h
    ·refine ⟨λ_=>?_,λ_=>h⟩
     rcases X.slots hjl h with h1 | ⟨h1,_⟩
     ·exact hancL k h1
     ·exact absurd hts (by rw [<- hrd]; exact (h1 t hk).1)
    ·subst h; exact ⟨λh=>by omega,λh=>absurd h hnj⟩
    ·refine ⟨λh=>by omega,λhLk=>?_⟩
     rcases X.slots hkl h with h1 | ⟨_,h1⟩
     ·exact absurd h1 (hnanc hLk)
     ·exact absurd hts (by rw [<- hrd]; exact h1 t hk)
   rw [hcv,<- hu']; exact (I.slot t _ m ht hA').mono (trunc_le hm)
  ·have : c = .any := by
    simp only [mask,List.getElem?_mapIdx,Option.map_eq_some_iff] at hcc; obtain ⟨x,_,rfl⟩:=hcc; simp [hts]
   subst this; exact .any
 have hin:∀ {b:Nat} {k:ABlk},G[b]? = some k->k ≠ .dead->(¬ G[b]? = some .dead)/\(∃ m,m<=(Hs j).length/\At ws H Hs L b k m)/\b < (Hs j).length:=by
  intro b k hb hk
  have hlt:b < (Hs j).length:=by rw [<- hS.len]; exact (List.getElem?_eq_some_iff.1 hb).1
  exact ⟨λh=>by rw [h] at hb; cases hb; exact hk rfl,hS.at_ b k hb hk,hlt⟩
 have hlive:∀ {k:ABlk},k.live = true->k ≠ .dead:=λh e=>by subst e; cases h
 have hHR:HR (σ.trunc (Hs j).length) G w:=by
  refine ⟨I.mem,λb k hb=>?_,λb n hb=>trunc_φ_ge (by rwa [hS.len] at hb),λb b' k k' u u' g hb hb' hl hl' hu hu' hg hg'=>?_⟩
  ·by_cases hk:k = .dead
   ·subst hk; trivial
   ·obtain ⟨h1,⟨m,hm,hA⟩,h3⟩:=hin hb hk
    exact (I.blk b k m hA).keep (trunc_le hm) (λn=>by rw [trunc_φ h3,trunc_φ hA.lt]) λ_ _ _ _ _=>⟨rfl,λ_ _=>rfl⟩
  ·obtain ⟨h1,⟨m,_,hA⟩,h3⟩:=hin hb (hlive hl)
   obtain ⟨h1',⟨m',_,hA'⟩,h3'⟩:=hin hb' (hlive hl'); rw [trunc_φ h3] at hu; rw [trunc_φ h3'] at hu'; exact I.inj b b' k k' m m' u u' g hA hA' hl hl' hu hu' hg hg'
 -- it runs
 have hrun:=ins_sound (K:=K) (Q:=Q) hc hHR hSS (hS.step.masked (rd:=i.sl) λt ht=>ht) ?_
 ·unfold wpOp
  simp only [ho]; exact hrun
 intro σ' v' u H' w' x1 x2 x3 x4
 simp only [wpIns] at x4; obtain ⟨hv',hGe⟩:=x4; rw [hGe] at x1 x2; have hdst:=compIns_dst hc
 let σ2:Sg:={ M:=σ'.M,φ:=λb n=>if b < (Hs (j + 1)).length then σ'.φ b n else σ.φ b n,D:=σ.D }
 have φlt:∀ {b n:Nat},b < (Hs (j + 1)).length->σ2.φ b n = σ'.φ b n:=λh=>if_pos h
 have φge:∀ {b n:Nat},(Hs (j + 1)).length<=b->σ2.φ b n = σ.φ b n:=λh=>if_neg (by omega)
 have F2:∀ b n u,σ.φ b n = some u->σ2.φ b n = some u:=by
  intro b n u hu
  rcases Nat.lt_or_ge b (Hs (j + 1)).length with hb | hb
  ·rw [φlt hb]
   rcases Nat.lt_or_ge b (Hs j).length with hb' | hb'
   ·exact x1.le.φ b n u (by rw [trunc_φ hb']; exact hu)
   ·rw [I.none b n (by omega) (λk hk hkb=>?_)] at hu
    ·cases hu
    ·have hkl:=hL k hk
     rcases Nat.lt_trichotomy k j with h | h | h
     ·have:=X.mono (k:=k + 1) (m:=j) (by omega) (by omega); omega
     ·subst h; exact hnj hk
     ·have:=X.mono (k:=j + 1) (m:=k) (by omega) (by omega); omega
  ·rw [φge hb]; exact hu
 have F3:σ'.le (σ2.trunc (Hs (j + 1)).length):=⟨λ_ _ h=>h,λb n u hu=>by
  have hb:b < (Hs (j + 1)).length:=by
   rcases Nat.lt_or_ge b (Hs (j + 1)).length with h | h
   ·exact h
   ·rw [x2.fresh b n (by rw [hS.len']; exact h)] at hu; cases hu
  rw [trunc_φ hb,φlt hb]; exact hu,x1.le.D.symm⟩
 have Mle:∀ p u,σ.M p = some u->σ2.M p = some u:=λp u h=>x1.le.M p u h
 have F4:∀ {b n:Nat},G[b]? = some .dead->b < (Hs j).length->σ2.φ b n = σ.φ b n:=by
  intro b n hU hb
  rw [φlt (by omega),(x1.dead b hU).2 n,trunc_φ hb]
 have hidφ:∀ {b:Nat} {blk:ABlk} {m:Nat},At ws H Hs L b blk m->(G[b]? = some .dead\/(Hs j).length<=b)->∀ n,σ2.φ b n = σ.φ b n:=by
  intro b blk m hA hh n
  rcases Nat.lt_or_ge b (Hs j).length with hb | hb
  ·rcases hh with hh | hh
   ·exact F4 hh hb
   ·omega
  ·rcases Nat.lt_or_ge b (Hs (j + 1)).length with hb' | hb'
   ·exfalso
    have hbj:=X.newWs hjl hb hb'; have hnU:=(X.wsU j hjl b hbj).1; rcases hA with ⟨k,a1,a2,_,a4,_⟩ | ⟨_,a2,_⟩
    ·have hkl:=hL k a1
     have hne:k ≠ j:=λe=>hnj (e ▸ a1)
     have hkj:=(hord hnU a2 hkl hne).1 a1; have h1:=(List.getElem?_eq_some_iff.1 a4).1; have h2:=X.mono (k:=k + 1) (m:=j) (by omega) (by omega); omega
    ·have:=(List.getElem?_eq_some_iff.1 a2).1; omega
   ·exact φge hb'
 have hfoot:∀ {g:Nat},Go.Proofs.YtofpekbidngnfaaGreatDoor.foot (σ.trunc (Hs j).length) G g->∃ b blk m u,At ws H Hs L b blk m/\(¬ G[b]? = some .dead)/\b < (Hs j).length/\blk.live = true/\σ.φ b blk.ver = some u/\conc u = some g:=by
  rintro g ⟨b,blk,u,hb,hl,hu,hg⟩; obtain ⟨h1,⟨m,_,hA⟩,h3⟩:=hin hb (hlive hl); rw [trunc_φ h3] at hu; exact ⟨b,blk,m,u,hA,h1,h3,hl,hu,hg⟩
 have F6:∀ {b:Nat} {blk:ABlk} {m:Nat} {u:Value} {g:Nat},At ws H Hs L b blk m->(G[b]? = some .dead\/(Hs j).length<=b)->blk.live = true->σ.φ b blk.ver = some u->conc u = some g ->
  ¬ Go.Proofs.YtofpekbidngnfaaGreatDoor.foot (σ.trunc (Hs j).length) G g/\g < w.heap.size:=by
  intro b blk m u g hA hh hl hu hg
  refine ⟨λhf=>?_,(I.blk b blk m hA).lt hl (by rw [trunc_φ hA.lt]; exact hu) hg⟩; obtain ⟨b1,blk1,m1,u1,hA1,hn1,hlt1,hl1,hu1,hg1⟩:=hfoot hf; have:=I.inj b b1 blk blk1 m m1 u u1 g hA hA1 hl hl1 hu hu1 hg hg1; subst this; rcases hh with hh | hh
  ·exact hn1 hh
  ·omega
 -- what stands at a name now
 have hcase:∀ {b:Nat} {blk:ABlk} {m:Nat},At ws H Hs (λk=>L k\/k = j) b blk m->(b ∈ ws.getD j []/\(Hs (j + 1))[b]? = some blk/\m = (Hs (j + 1)).length)\/(b ∉ ws.getD j []/\At ws H Hs L b blk m):=by
  intro b blk m hA
  rcases hA with ⟨k,a1,a2,a3,a4,a5⟩ | ⟨a1,a2,a3⟩
  ·by_cases e:k = j
   ·subst e; exact .inl ⟨a2,a4,a5⟩
   ·have hLk:L k:=a1.resolve_right e
    by_cases hb:b ∈ ws.getD j []
    ·exfalso
     have hjk:=a3 j (.inr rfl) hb; have hnU:=(X.wsU j hjl b hb).1; have:=(hord hnU a2 (hL k hLk) e).1 hLk; omega
    ·exact .inr ⟨hb,.inl ⟨k,hLk,a2,λk' hk'=>a3 k' (.inl hk'),a4,a5⟩⟩
  ·exact .inr ⟨a1 j (.inr rfl),.inr ⟨λk hk=>a1 k (.inl hk),a2,a3⟩⟩
 have hVH:∀ {b:Nat} {blk:ABlk} {m:Nat},At ws H Hs (λk=>L k\/k = j) b blk m ->
  (G'[b]? = some blk/\b < (Hs (j + 1)).length/\(b ∈ ws.getD j []\/At ws H Hs L b blk m))\/(At ws H Hs L b blk m/\(G[b]? = some .dead\/(Hs j).length<=b)):=by
  intro b blk m hA
  rcases hcase hA with ⟨h1,h2,rfl⟩ | ⟨h1,h2⟩
  ·exact .inl ⟨by rw [hS.own b h1]; exact h2,(List.getElem?_eq_some_iff.1 h2).1,.inl h1⟩
  ·by_cases hh:G[b]? = some .dead\/(Hs j).length<=b
   ·exact .inr ⟨h2,hh⟩
   ·have hnU:¬ G[b]? = some .dead:=λh=>hh (.inl h)
    have hb:b < (Hs j).length:=by
     rcases Nat.lt_or_ge b (Hs j).length with h | h
     ·exact h
     ·exact absurd (Or.inr h) hh
    have hgb:b < G.length:=by rw [hS.len]; exact hb
    obtain ⟨m',_,hA'⟩:=hS.at_ b _ (gEe hgb) (λe=>hnU (by rw [gEe hgb,e])); obtain ⟨e,_⟩:=h2.uniq hA'; refine .inl ⟨?_,by omega,.inr h2⟩; rw [hS.oth b h1 hb,gEe hgb,e]
 have hscase:∀ {t:Nat} {x:AV} {m:Nat},SlAt l s H Hs v (λk=>L k\/k = j) t x m->(wrOf l j = some t/\x = v j/\m = (Hs (j + 1)).length)\/(wrOf l j ≠ some t/\SlAt l s H Hs v L t x m):=by
  intro t x m hA
  rcases hA with ⟨k,a1,a2,a3,a4,a5⟩ | ⟨a1,a2,a3⟩
  ·by_cases e:k = j
   ·subst e; exact .inl ⟨a2,a4,a5⟩
   ·have hLk:L k:=a1.resolve_right e
    by_cases hb:wrOf l j = some t
    ·exfalso
     have hjk:=a3 j (.inr rfl) hb; rcases X.slots (hL k hLk) (show j < k by omega) with h1 | ⟨h1,_⟩
     ·exact hnanc hLk h1
     ·exact (h1 t hb).2 a2
    ·exact .inr ⟨hb,.inl ⟨k,hLk,a2,λk' hk'=>a3 k' (.inl hk'),a4,a5⟩⟩
  ·exact .inr ⟨a1 j (.inr rfl),.inr ⟨λk hk=>a1 k (.inl hk),a2,a3⟩⟩
 refine hK σ2 _ w' ⟨?_,?_,x2.mem,λt x m ht hA=>?_,λb blk m hA=>?_,λb n hb hk=>?_,λb b' k k' m m' u u' g hA hA' hl hl' hu hu' hg hg'=>?_,λp u h=>Mle p u (I.M p u h),λb n u hb h=>F2 b n u (I.φ b n u hb h),
  x1.os.trans I.os,x1.tape.trans I.tape,x1.output.trans I.output,Nat.le_trans I.wsize x1.size,λk hk hf=>?_,λb blk m u k hA hl hu hg=>?_,λp hp=>?_,λb n hb=>?_,I.D⟩
 ·cases o.dst <;> exact I.defers
 ·cases o.dst <;> simp [Act.put,I.size]
 ·rcases hscase hA with ⟨h1,rfl,rfl⟩ | ⟨h1,h2⟩
  ·have hd:o.dst = some t:=by rw [<- hdst]; simpa [wrOf,hj] using h1
   have hvv:v' = v j:=by
    rw [hdst,hd] at hv'; have:=congrArg (λq:List AV=>q.getD t .any) hv'; have hlt:t < (mask i.sl (st j)).length:=by rw [mask_length,X.stlen (Nat.le_of_lt hjl)]; exact ht
    simpa [setO,hlt] using this
   subst hvv; have hget:(a.put o.dst u).tmps.getD t undef = u:=by
    rw [hd]; simp [Act.put,I.size,ht]
   rw [hget]; exact x3.mono F3
  ·have hget : (a.put o.dst u).tmps.getD t undef = a.tmps.getD t undef := by
    cases hd:o.dst with
    | none=>rfl
    | some d =>
     have:d ≠ t:=λe=>h1 (by simp [wrOf,hj,hdst,hd,e])
     simp [Act.put,Array.getElem?_setIfInBounds_ne this]
   rw [hget]; exact (I.slot t x m ht h2).mono (trunc_mono Mle (λb n u _ h=>F2 b n u h) rfl)
 ·rcases hcase hA with ⟨h1,h2,rfl⟩ | ⟨h1,h2⟩
  ·have hb:=(List.getElem?_eq_some_iff.1 h2).1
   exact (x2.blk b blk (by rw [hS.own b h1]; exact h2)).keep F3 (λn=>by rw [trunc_φ hb,φlt hb]) λ_ _ _ _ _=>⟨rfl,λ_ _=>rfl⟩
  ·rcases hVH hA with ⟨h3,h4,_⟩ | ⟨_,hh⟩
   ·have hB:=(x2.blk b blk h3).keep (F3.trans trunc_le_self) (λn=>φlt h4) λ_ _ _ _ _=>⟨rfl,λ_ _=>rfl⟩
    exact hB.trunc h2.lt (I.blk b blk m h2).trunc_refs
   ·refine (I.blk b blk m h2).keep (trunc_mono Mle (λb n u _ h=>F2 b n u h) rfl) (λn=>by rw [trunc_φ h2.lt,trunc_φ h2.lt]; exact hidφ h2 hh n) λu g hl hu hg=>?_
    rw [trunc_φ h2.lt] at hu; obtain ⟨f1,f2⟩:=F6 h2 hh hl hu hg; refine ⟨x1.frame g f2 f1,λp hp=>?_⟩
    by_cases e:σ'.M p = σ.M p
    ·exact e
    ·rcases x1.new p e with h | h
     ·rw [hp] at h; exact absurd h f1
     ·omega
 ·rcases Nat.lt_or_ge b (Hs (j + 1)).length with hb1 | hb1
  ·have hbj : b < (Hs j).length := by
    rcases Nat.lt_or_ge b (Hs j).length with h | h
    ·exact h
    ·exact absurd ⟨h,hb1⟩ (hk j (.inr rfl))
   obtain ⟨k0,hk0,hk1,hk2⟩:=X.alloc hb (Nat.le_of_lt hjl) hbj; have hnL:¬ L k0:=λh=>hk k0 (.inl h) ⟨hk1,hk2⟩
   have hw0:=X.newWs (j:=k0) (by omega) hk1 hk2; have hU:=X.uns (by omega) hjl (by omega) (λh=>hnL (hancL k0 h)) (λh=>by have:=hancLt (by omega) h; omega) hw0; rw [F4 (hS.hid b hU hb hbj) hbj]; exact I.none b n hb λk hLk=>hk k (.inl hLk)
  ·rw [φge hb1]
   exact I.none b n hb λk hLk=>hk k (.inl hLk)
 ·have mix : ∀ {b b' : Nat} {k k' : ABlk} {m' : Nat} {u u' : Value}, G'[b]? = some k -> b < (Hs (j + 1)).length -> At ws H Hs L b' k' m' -> (G[b']? = some .dead \/ (Hs j).length <= b') ->
   k.live = true->k'.live = true->σ2.φ b k.ver = some u->σ2.φ b' k'.ver = some u'->conc u = some g->conc u' = some g->False:=by
   intro b b' k k' m' u u' h1 h2 hA' hh hl hl' hu hu' hg hg'
   rw [φlt h2] at hu; rw [hidφ hA' hh] at hu'; obtain ⟨f1,f2⟩:=F6 hA' hh hl' hu' hg'; rcases x1.foot g ⟨b,k,u,h1,hl,hu,hg⟩ with h | h
   ·exact f1 h
   ·omega
  rcases hVH hA with ⟨h1,h2,_⟩ | ⟨h1,hh⟩ <;> rcases hVH hA' with ⟨h1',h2',_⟩ | ⟨h1',hh'⟩
  ·rw [φlt h2] at hu
   rw [φlt h2'] at hu'; exact x2.inj b b' k k' u u' g h1 h1' hl hl' hu hu' hg hg'
  ·exact (mix h1 h2 h1' hh' hl hl' hu hu' hg hg').elim
  ·exact (mix h1' h2' h1 hh hl' hl hu' hu hg' hg).elim
  ·rw [hidφ h1 hh] at hu
   rw [hidφ h1' hh'] at hu'; exact I.inj b b' k k' m m' u u' g h1 h1' hl hl' hu hu' hg hg'
 ·rw [x1.frame k (Nat.lt_of_lt_of_le hk I.wsize) (λh=>?_),I.frame k hk hf]
  obtain ⟨b1,blk1,m1,u1,hA1,_,_,hl1,hu1,hg1⟩:=hfoot h; rcases I.foot b1 blk1 m1 u1 k hA1 hl1 hu1 hg1 with h | h
  ·exact hf h
  ·omega
 ·rcases hVH hA with ⟨h1,h2,_⟩ | ⟨h1,hh⟩
  ·rw [φlt h2] at hu
   rcases x1.foot k ⟨b,blk,u,h1,hl,hu,hg⟩ with h | h
   ·obtain ⟨b1,blk1,m1,u1,hA1,_,_,hl1,hu1,hg1⟩:=hfoot h
    exact I.foot b1 blk1 m1 u1 k hA1 hl1 hu1 hg1
   ·exact .inr (Nat.le_trans I.wsize h)
  ·rw [hidφ h1 hh] at hu
   exact I.foot b blk m u k h1 hl hu hg
 ·by_cases e:σ'.M p = σ.M p
  ·exact I.new p (by rw [<- e]; exact hp)
  ·rcases x1.new p e with h | h
   ·obtain ⟨b1,blk1,m1,u1,hA1,_,_,hl1,hu1,hg1⟩:=hfoot h
    exact I.foot b1 blk1 m1 u1 p.block hA1 hl1 hu1 hg1
   ·exact .inr (Nat.le_trans I.wsize h)
 ·have hbl:b < (Hs j).length:=by have:=(List.getElem?_eq_some_iff.1 hb).1; omega
  have hd:G[b]? = some .dead:=by
   have hgb:b < G.length:=by rw [hS.len]; exact hbl
   by_cases e:G[b] = .dead
   ·rw [gEe hgb,e]
   ·exfalso
    obtain ⟨m,_,hA⟩:=hS.at_ b _ (gEe hgb) e; rcases hA with ⟨k,a1,a2,_⟩ | ⟨_,a2,_⟩
    ·exact (X.wsU k (hL k a1) b a2).2 hb
    ·rw [hb] at a2; exact e (Option.some.inj a2).symm
  rw [φlt (by omega),(x1.dead b hd).2 n,trunc_φ hbl]; exact I.dead b n hb
theorem DInv.done (X:Lex P pr ws U l s H st Hs v) {σb:Sg} {w0:World} {L:Nat->Prop} {σ:Sg} {a:Act} {w:World} (hb:HR σb H w0)
 (I:DInv l ws s H Hs v σb w0 L σ a w) (hL:∀ i,L i ↔ i < l.length) (nb:Nat):ExtN nb σb H w0 σ (Hs l.length) w/\HR σ (Hs l.length) w/\SS σ (st l.length) a:=by
 have hcont:∀ {b:Nat} {blk:ABlk},(Hs l.length)[b]? = some blk->∃ m,At ws H Hs L b blk m:=by
  intro b blk h
  obtain ⟨m,_,hA⟩:=X.hist (Nat.le_refl _) h; exact ⟨m,hA.congr λk _=>(hL k).symm⟩
 have hH0:H.length<=(Hs l.length).length:=by have:=X.mono (Nat.zero_le l.length) (Nat.le_refl _); rwa [X.H0] at this
 refine ⟨⟨I.M,λb n u _ hu=>?_,I.os,I.tape,I.output,I.wsize,I.frame,?_,I.new,λb _ hd=>⟨X.deadH hd (Nat.le_refl _),λn=>I.dead b n hd⟩,I.D⟩,⟨I.mem,λb k h=>?_,λb n h=>?_,λb b' k k' u u' g h h' hl hl' hu hu' hg hg'=>?_⟩,⟨I.defers,?_⟩⟩
 ·rcases Nat.lt_or_ge b H.length with h | h
  ·exact I.φ b n u h hu
  ·rw [hb.fresh b n h] at hu; cases hu
 ·rintro k ⟨b,blk,u,h,hl,hu,hg⟩
  obtain ⟨m,hA⟩:=hcont h; exact I.foot b blk m u k hA hl hu hg
 ·obtain ⟨m,hA⟩:=hcont h
  exact (I.blk b k m hA).keep trunc_le_self (λn=>by rw [trunc_φ hA.lt]) λ_ _ _ _ _=>⟨rfl,λ_ _=>rfl⟩
 ·refine I.none b n (by omega) λk hk hkb=>?_
  have:=X.mono (k:=k + 1) (m:=l.length) ((hL k).1 hk) (Nat.le_refl _); omega
 ·obtain ⟨m,hA⟩:=hcont h
  obtain ⟨m',hA'⟩:=hcont h'; exact I.inj b b' k k' m m' u u' g hA hA' hl hl' hu hu' hg hg'
 ·have hstl:=X.stlen (Nat.le_refl l.length)
  refine ⟨by have:=I.size; rw [hstl]; simpa using this.symm,λt c u hcc hu=>?_⟩; have ht:t < s.length:=by rw [<- hstl]; exact (List.getElem?_eq_some_iff.1 hcc).1
  obtain ⟨m,_,hA⟩:=X.shist ht (Nat.le_refl _); have hA':SlAt l s H Hs v L t ((st l.length).getD t .any) m:=hA.congr λk _=>(hL k).symm
  have:=(I.slot t _ m ht hA').mono trunc_le_self; have hu':a.tmps[t]? = some u:=by simpa using hu
  simpa [hcc,hu'] using this
theorem compL_len {hint:Nat->Option Md} {ops:Array Oper}:∀ {os:List Oper} {l:List Ins},compL P hint ops os = some l->os.length = l.length/\∀ (j:Nat) (o:Oper),os[j]? = some o->∃ i,l[j]? = some i/\compIns P hint ops o = some i
 | [],l,h=>by simp [compL] at h; subst h; exact ⟨rfl,λj o h=>by simp at h⟩
 | o :: os,l,h=>by
  simp only [compL] at h
  split at h
  ·rename_i i l' e1 e2
   cases h
   obtain ⟨h1,h2⟩:=compL_len e2; refine ⟨by simp [h1],λj o' ho=>?_⟩
   cases j with
   | zero=>simp at ho; subst ho; exact ⟨i,rfl,e1⟩
   | succ j=>simp at ho; simpa using h2 j o' ho
  ·cases h
theorem W.dregS {nb:Nat} {hint:Nat->Option Md} {Q:APost} (hm:P.follows .mixedOrders = true) (X:Lex P pr ws U l s H st Hs v)
 (hseen:∀ (L:Nat->Prop) (j:Nat) (i:Ins),(∀ i,L i->i < l.length)->(∀ i,L i->∀ k ∈ pr.getD i [],L k)->l[j]? = some i->¬ L j->(∀ k ∈ pr.getD j [],L k)->∃ G G',Seen P ws U H st Hs v L j i G G')
 (e4:Q .normal (st l.length) (Hs l.length)):W P hint nb (.dreg pr l) s H Q:=by
 intro c hcomp σb a w0 h hs
 obtain ⟨id,ops,rfl,hl,rfl⟩:=comp_dreg hcomp; obtain ⟨hlen,hins⟩:=compL_len hl; have hsz:ops.size = l.length:=by simpa using hlen
 have hpr:∀ (j:Nat) (o:Oper),ops[j]? = some o->∀ k,k ∈ (prOf ops).getD j [] ↔ ∃ e ∈ o.after,Region.binds .any e = true/\e.on = k:=by
  intro j o ho k
  have ho':ops.toList[j]? = some o:=by simpa using ho
  simp [prOf,ho',and_assoc]
 have main:∀ (fuel:Nat) (listed:Array Bool) (σ:Sg) (a:Act) (w:World),listed.size = ops.size->(ops.size<=fuel + ((List.range ops.size).filter λi=>listed.getD i false).length) ->
  (∀ i,listed.getD i false = true->∀ k ∈ (prOf ops).getD i [],listed.getD k false = true)->DInv l ws s H Hs v σb w0.drew (λi=>listed.getD i false = true) σ a w->wpAny P .any ops (Lift nb Q σb H w0) fuel listed a w:=by
  have fin:∀ (listed:Array Bool) (σ:Sg) (a:Act) (w:World),listed.size = ops.size->(∀ i,i < ops.size->listed.getD i false = true)->DInv l ws s H Hs v σb w0.drew (λi=>listed.getD i false = true) σ a w ->
   Lift nb Q σb H w0 .normal a w:=by
   intro listed σ a w hls hall I
   have hlt:∀ i,listed.getD i false = true->i < l.length:=λi hi=>by
    rcases Nat.lt_or_ge i l.length with h' | h'
    ·exact h'
    ·rw [show listed.getD i false = false by simp [Array.getElem?_eq_none (show listed.size<=i by omega)]] at hi
     cases hi
   obtain ⟨d1,d2,d3⟩:=I.done X h.drew (λi=>⟨hlt i,λhi=>hall i (by omega)⟩) nb; exact ⟨σ,_,_,((Ext.drew σb H w0).toN nb).trans d1,d2,d3,e4⟩
  intro fuel
  induction fuel with
  | zero =>
   intro listed σ a w hls hcnt hcl I
   have hall:∀ i,i < ops.size->listed.getD i false = true:=by
    have h1:((List.range ops.size).filter λi=>listed.getD i false).length = (List.range ops.size).length:=by
     have h2:=List.length_filter_le (λi=>listed.getD i false) (List.range ops.size); have h3:(List.range ops.size).length = ops.size:=List.length_range; omega
    intro i hi
    exact List.length_filter_eq_length_iff.1 h1 i (List.mem_range.2 hi)
   refine ⟨?_,fin listed σ a w hls hall I⟩; rw [List.eq_nil_iff_forall_not_mem]
   intro i hi
   obtain ⟨h1,o,h2,_⟩:=mem_ready.1 hi; have h3:=hall i (Array.getElem?_eq_some_iff.1 h2).1; have hlt:i < listed.size:=by have:=(Array.getElem?_eq_some_iff.1 h2).1; omega
   simp [hlt] at h1 h3; rw [h1] at h3; cases h3
  | succ fuel ih =>
   intro listed σ a w hls hcnt hcl I
   have hun:∀ i,i < ops.size->(listed.getD i false = true\/listed.getD i true = false):=by
    intro i hi
    have hlt:i < listed.size:=by omega
    cases hb:listed[i] <;> simp [hlt,hb]
   refine ⟨λhr=>fin listed σ a w hls ?_ I,λi hi=>?_⟩
   ·intro i
    induction i using Nat.strongRecOn with
    | _ i ihi =>
     intro hi
     rcases hun i hi with h1 | h1
     ·exact h1
     ·exfalso
      have ho:ops[i]? = some ops[i]:=Array.getElem?_eq_getElem hi; have:i ∈ Region.ready .any ops listed:=mem_ready.2 ⟨h1,_,ho,λe he hbd=>by
       have hk:e.on ∈ (prOf ops).getD i []:=(hpr i _ ho e.on).2 ⟨e,he,hbd,rfl⟩; have hlt:=X.pred (by omega) hk; exact ihi e.on hlt (by omega)⟩
      rw [hr] at this; cases this
   ·obtain ⟨h1,o,ho,h2⟩:=mem_ready.1 hi
    have hio:=(Array.getElem?_eq_some_iff.1 ho).1; have hlt:i < listed.size:=by omega
    have hf:listed.getD i false = false:=by simp [hlt] at h1 ⊢; exact h1
    obtain ⟨ins,hi1,hi2⟩:=hins i o (by simpa using ho); have hpi:∀ k ∈ (prOf ops).getD i [],listed.getD k false = true:=λk hk=>by
     obtain ⟨e,he,hb,rfl⟩:=(hpr i o ho k).1 hk; exact h2 e he hb
    have hsetL:∀ k,(listed.setIfInBounds i true).getD k false = true ↔ (listed.getD k false = true\/k = i):=λk=>by
     by_cases e:i = k
     ·subst e; simp [hlt]
     ·rw [getD_set_ne false e]
      exact ⟨.inl,λh'=>h'.resolve_right (λe'=>e e'.symm)⟩
    have hLl:∀ k,listed.getD k false = true->k < l.length:=λk hk=>by
     rcases Nat.lt_or_ge k l.length with h' | h'
     ·exact h'
     ·rw [show listed.getD k false = false by simp [Array.getElem?_eq_none (show listed.size<=k by omega)]] at hk; cases hk
    obtain ⟨G,G',hS⟩:=hseen _ i _ hLl hcl hi1 (by rw [hf]; exact Bool.false_ne_true) hpi; refine I.next (hint:=hint) (Q:=Lift nb Q σb H w0) X hLl hcl hi1 ho hi2 (by rw [hf]; exact Bool.false_ne_true) hpi hS (λσ' a' w' I'=>?_)
    ·refine ih (listed.setIfInBounds i true) σ' a' w' (by simpa using hls) ?_ (λk hk m hm'=>?_) ?_
     ·have hlt2 : ((List.range ops.size).filter fun k => listed.getD k false).length < ((List.range ops.size).filter fun k => (listed.setIfInBounds i true).getD k false).length := by
       have hsplit:List.range ops.size = List.range i ++ i :: (List.range' (i + 1) (ops.size - i - 1)):=by
        have e1:List.range' 0 i ++ List.range' (0 + i) (ops.size - i - 1 + 1) = List.range' 0 (i + (ops.size - i - 1 + 1)):=List.range'_append_1; have e2:List.range' i (ops.size - i - 1 + 1) = i :: List.range' (i + 1) (ops.size - i - 1):=List.range'_succ; rw [Nat.zero_add,e2,show i + (ops.size - i - 1 + 1) = ops.size by omega] at e1; rw [List.range_eq_range',List.range_eq_range',e1]
       have key:∀ (p q:Nat->Bool) (xs:List Nat),(∀ x,p x = true->q x = true)->(xs.filter p).length<=(xs.filter q).length:=by
        intro p q xs hpq
        induction xs with
        | nil=>exact Nat.le_refl _
        | cons x xs ihx =>
         simp only [List.filter_cons]
         by_cases hp:p x = true
         ·simp [hp,hpq x hp]; omega
         ·by_cases hq:q x = true
          ·simp [hp,hq]; omega
          ·simp [hp,hq]; omega
       have hpq:∀ x,listed.getD x false = true->(listed.setIfInBounds i true).getD x false = true:=λx hx=>(hsetL x).2 (.inl hx)
       rw [hsplit,List.filter_append,List.filter_append,List.length_append,List.length_append,List.filter_cons,List.filter_cons]; have k1:=key (λk=>listed.getD k false) (λk=>(listed.setIfInBounds i true).getD k false) (List.range i) hpq; have k2:=key (λk=>listed.getD k false) (λk=>(listed.setIfInBounds i true).getD k false) (List.range' (i + 1) (ops.size - i - 1)) hpq; rw [if_neg (by rw [hf]; exact Bool.false_ne_true),if_pos ((hsetL i).2 (.inr rfl)),List.length_cons]; omega
      omega
     ·rcases (hsetL k).1 hk with h' | h'
      ·exact (hsetL m).2 (.inl (hcl k h' m hm'))
      ·subst h'; exact (hsetL m).2 (.inl (hpi m hm'))
     ·have:(λk=>(listed.setIfInBounds i true).getD k false = true) = (λk=>listed.getD k false = true\/k = i):=funext λk=>propext (hsetL k)
      rw [this]; exact I'
 have hfalse:∀ i,(Array.replicate ops.size false).getD i false = false:=λi=>by
  by_cases hi:i < ops.size <;> simp [hi]
 refine wp_region_any hm (main ops.size _ σb a w0.drew (by simp) (by omega) (λi hi=>by rw [hfalse i] at hi; cases hi) ?_); have:(λi=>(Array.replicate ops.size false).getD i false = true) = (λ_=>False):=funext λi=>propext ⟨λhi=>absurd ((hfalse i).symm.trans hi) Bool.false_ne_true,False.elim⟩
 rw [this]; exact DInv.start h.drew hs
theorem W.dreg {nb:Nat} {hint:Nat->Option Md} {Q:APost} (ws U:List (List Nat)) (hm:P.follows .mixedOrders = true) (hok:drawOk pr l = true) (hU:(List.range l.length).map (killsOf pr ws l.length) = U)
 (hc:DChain P ws U H 0 l s H (Q .normal)):W P hint nb (.dreg pr l) s H Q:=by
 obtain ⟨st,Hs,v,e1,e2,e3,e4⟩:=hc.seq; simp only [Nat.zero_add] at e3 e4; have X:Lex P pr ws U l s H st Hs v:=⟨e1,e2,λk i hk=>(e3 k i hk).2.1,λk b hk hb=>(e3 k _ (gEe hk)).2.2.1 b hb,λk hk=>(e3 k _ (gEe hk)).2.2.2.1,λk hk=>(e3 k _ (gEe hk)).2.2.2.2,hok,hU⟩; exact .dregS hm X (λL j i hL hdc hj hnj hpj=>⟨_,_,X.hard hL hdc (List.getElem?_eq_some_iff.1 hj).1 hnj hpj (e3 j i hj).1⟩) e4
end
end Go.Proofs.YtofpekbidngnfaaGreatDoor
