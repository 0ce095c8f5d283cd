/-
  One's own library, part 8d: regions that draw their order: laws by an invariant; writers one behind the other.
-/
import Derived.Test.YtofpekbidngnfaaGreatDoorYDraw2
import Derived.Test.YtofpekbidngnfaaGreatDoorYFpF
import Derived.Defers
import Derived.Recover
set_option linter.constructorNameAsVariable false
set_option linter.unusedSectionVars false
set_option linter.unusedSimpArgs false
set_option linter.unusedVariables false
namespace Go.Proofs.YtofpekbidngnfaaGreatDoor
open Go.RowKit
section
variable {P:Program} {pr:List (List Nat)} {l:List Ins} {s:List AV} {H:List ABlk}
theorem W.dregJ {nb:Nat} {hint:Nat->Option Md} {Q:APost} (hm:P.follows .mixedOrders = true) (hpr:∀ j,j < l.length->∀ k ∈ pr.getD j [],k < j) (J:(Nat->Prop)->List AV->List ABlk->Prop)
 (h0:J (λ_=>False) s H)
 (hstep:∀ (L:Nat->Prop) (j:Nat) (i:Ins) (s':List AV) (H':List ABlk),(∀ k,L k->k < l.length)->(∀ i,L i->∀ k ∈ pr.getD i [],L k)->l[j]? = some i->¬ L j->(∀ k ∈ pr.getD j [],L k)->J L s' H'->wpIns P [i] s' H' (J λk=>L k\/k = j))
 (hfin:∀ s' H',J (λk=>k < l.length) s' H'->Q .normal s' H'):W P hint nb (.dreg pr l) s H Q:=by
 intro c hcomp σb a w0 h hs
 obtain ⟨id,ops,rfl,hl,rfl⟩:=comp_dreg hcomp; obtain ⟨hlen,hins⟩:=compL_len hl; have hsz:ops.size = l.length:=by simpa using hlen
 have hprO:∀ (j:Nat) (o:Oper),ops[j]? = some o->∀ k,k ∈ (prOf ops).getD j [] ↔ ∃ e ∈ o.after,Region.binds .any e = true/\e.on = k:=by
  intro j o ho k
  have ho':ops.toList[j]? = some o:=by simpa using ho
  simp [prOf,ho',and_assoc]
 have main:∀ (fuel:Nat) (listed:Array Bool) (a:Act) (w:World),listed.size = ops.size->(ops.size<=fuel + ((List.range ops.size).filter λi=>listed.getD i false).length) ->
  (∀ i,listed.getD i false = true->∀ k ∈ (prOf ops).getD i [],listed.getD k false = true) ->
  (∃ σ s' H',Ext σb H w0.drew σ H' w/\HR σ H' w/\SS σ s' a/\J (λi=>listed.getD i false = true) s' H')->wpAny P .any ops (Lift nb Q σb H w0) fuel listed a w:=by
  have fin:∀ (listed:Array Bool) (a:Act) (w:World),listed.size = ops.size->(∀ i,i < ops.size->listed.getD i false = true) ->
   (∃ σ s' H',Ext σb H w0.drew σ H' w/\HR σ H' w/\SS σ s' a/\J (λi=>listed.getD i false = true) s' H')->Lift nb Q σb H w0 .normal a w:=by
   intro listed a w hls hall I
   obtain ⟨σ,s',H',d1,d2,d3,d4⟩:=I; have hlt:∀ i,listed.getD i false = true->i < l.length:=λi hi=>by
    rcases Nat.lt_or_ge i l.length with h' | h'
    ·exact h'
    ·rw [show listed.getD i false = false by simp [Array.getElem?_eq_none (show listed.size<=i by omega)]] at hi
     cases hi
   have:(λi=>listed.getD i false = true) = λk=>k < l.length:=funext λi=>propext ⟨hlt i,λhi=>hall i (by omega)⟩
   rw [this] at d4; exact ⟨σ,_,_,((Ext.drew σb H w0).trans d1).toN nb,d2,d3,hfin _ _ d4⟩
  intro fuel
  induction fuel with
  | zero =>
   intro listed a w hls hcnt hcl I
   have hall:∀ i,i < ops.size->listed.getD i false = true:=by
    have h1:((List.range ops.size).filter λi=>listed.getD i false).length = (List.range ops.size).length:=by
     have h2:=List.length_filter_le (λi=>listed.getD i false) (List.range ops.size); have h3:(List.range ops.size).length = ops.size:=List.length_range; omega
    intro i hi
    exact List.length_filter_eq_length_iff.1 h1 i (List.mem_range.2 hi)
   refine ⟨?_,fin listed a w hls hall I⟩; rw [List.eq_nil_iff_forall_not_mem]
   intro i hi
   obtain ⟨h1,o,h2,_⟩:=mem_ready.1 hi; have h3:=hall i (Array.getElem?_eq_some_iff.1 h2).1; have hlt:i < listed.size:=by have:=(Array.getElem?_eq_some_iff.1 h2).1; omega
   simp [hlt] at h1 h3; rw [h1] at h3; cases h3
  | succ fuel ih =>
   intro listed a w hls hcnt hcl I
   have hun:∀ i,i < ops.size->(listed.getD i false = true\/listed.getD i true = false):=by
    intro i hi
    have hlt:i < listed.size:=by omega
    cases hb:listed[i] <;> simp [hlt,hb]
   refine ⟨λhr=>fin listed a w hls ?_ I,λi hi=>?_⟩
   ·intro i
    induction i using Nat.strongRecOn with
    | _ i ihi =>
     intro hi
     rcases hun i hi with h1 | h1
     ·exact h1
     ·exfalso
      have ho:ops[i]? = some ops[i]:=Array.getElem?_eq_getElem hi; have:i ∈ Region.ready .any ops listed:=mem_ready.2 ⟨h1,_,ho,λe he hbd=>by
       have hk:e.on ∈ (prOf ops).getD i []:=(hprO i _ ho e.on).2 ⟨e,he,hbd,rfl⟩; have hlt:=hpr i (by omega) _ hk; exact ihi e.on hlt (by omega)⟩
      rw [hr] at this; cases this
   ·obtain ⟨h1,o,ho,h2⟩:=mem_ready.1 hi
    have hio:=(Array.getElem?_eq_some_iff.1 ho).1; have hlt:i < listed.size:=by omega
    have hf:listed.getD i false = false:=by simp [hlt] at h1 ⊢; exact h1
    obtain ⟨ins,hi1,hi2⟩:=hins i o (by simpa using ho); have hpi:∀ k ∈ (prOf ops).getD i [],listed.getD k false = true:=λk hk=>by
     obtain ⟨e,he,hb,rfl⟩:=(hprO i o ho k).1 hk; exact h2 e he hb
    have hsetL:∀ k,(listed.setIfInBounds i true).getD k false = true ↔ (listed.getD k false = true\/k = i):=λk=>by
     by_cases e:i = k
     ·subst e; simp [hlt]
     ·rw [getD_set_ne false e]
      exact ⟨.inl,λh'=>h'.resolve_right (λe'=>e e'.symm)⟩
    have hLl:∀ k,listed.getD k false = true->k < l.length:=λk hk=>by
     rcases Nat.lt_or_ge k l.length with h' | h'
     ·exact h'
     ·rw [show listed.getD k false = false by simp [Array.getElem?_eq_none (show listed.size<=k by omega)]] at hk; cases hk
    obtain ⟨σ,s',H',d1,d2,d3,d4⟩:=I; have hw:=hstep (λi=>listed.getD i false = true) i ins s' H' hLl hcl hi1 (by rw [hf]; exact Bool.false_ne_true) hpi d4; have hrun:=ins_sound (hint:=hint) (K:=wpAny P .any ops (Lift nb Q σb H w0) fuel (listed.setIfInBounds i true)) (Q:=Lift nb Q σb H w0) hi2 d2 d3 hw ?_
    ·unfold wpOp
     simp only [ho]; exact hrun
    intro σ' v' u H'' w' x1 x2 x3 x4
    have x4:J (λk=>listed.getD k false = true\/k = i) (setO s' o.dst v') H'':=x4; refine ih (listed.setIfInBounds i true) _ w' (by simpa using hls) ?_ (λk hk m hm'=>?_) ⟨σ',_,_,d1.trans x1,x2,(d3.mono x1.le).put o.dst x3,?_⟩
    ·have hlt2 : ((List.range ops.size).filter fun k => listed.getD k false).length < ((List.range ops.size).filter fun k => (listed.setIfInBounds i true).getD k false).length := by
      have hsplit:List.range ops.size = List.range i ++ i :: (List.range' (i + 1) (ops.size - i - 1)):=by
       have e1:List.range' 0 i ++ List.range' (0 + i) (ops.size - i - 1 + 1) = List.range' 0 (i + (ops.size - i - 1 + 1)):=List.range'_append_1; have e2:List.range' i (ops.size - i - 1 + 1) = i :: List.range' (i + 1) (ops.size - i - 1):=List.range'_succ; rw [Nat.zero_add,e2,show i + (ops.size - i - 1 + 1) = ops.size by omega] at e1; rw [List.range_eq_range',List.range_eq_range',e1]
      have key:∀ (p q:Nat->Bool) (xs:List Nat),(∀ x,p x = true->q x = true)->(xs.filter p).length<=(xs.filter q).length:=by
       intro p q xs hpq
       induction xs with
       | nil=>exact Nat.le_refl _
       | cons x xs ihx =>
        simp only [List.filter_cons]
        by_cases hp:p x = true
        ·simp [hp,hpq x hp]; omega
        ·by_cases hq:q x = true
         ·simp [hp,hq]; omega
         ·simp [hp,hq]; omega
      have hpq:∀ x,listed.getD x false = true->(listed.setIfInBounds i true).getD x false = true:=λx hx=>(hsetL x).2 (.inl hx)
      rw [hsplit,List.filter_append,List.filter_append,List.length_append,List.length_append,List.filter_cons,List.filter_cons]; have k1:=key (λk=>listed.getD k false) (λk=>(listed.setIfInBounds i true).getD k false) (List.range i) hpq; have k2:=key (λk=>listed.getD k false) (λk=>(listed.setIfInBounds i true).getD k false) (List.range' (i + 1) (ops.size - i - 1)) hpq; rw [if_neg (by rw [hf]; exact Bool.false_ne_true),if_pos ((hsetL i).2 (.inr rfl)),List.length_cons]; omega
     omega
    ·rcases (hsetL k).1 hk with h' | h'
     ·exact (hsetL m).2 (.inl (hcl k h' m hm'))
     ·subst h'; exact (hsetL m).2 (.inl (hpi m hm'))
    ·have:(λk=>(listed.setIfInBounds i true).getD k false = true) = (λk=>listed.getD k false = true\/k = i):=funext λk=>propext (hsetL k)
     rw [this]; exact x4
 have hfalse:∀ i,(Array.replicate ops.size false).getD i false = false:=λi=>by
  by_cases hi:i < ops.size <;> simp [hi]
 refine wp_region_any hm (main ops.size _ a w0.drew (by simp) (by omega) (λi hi=>by rw [hfalse i] at hi; cases hi) ⟨σb,s,H,.refl ..,h.drew,hs,?_⟩); have:(λi=>(Array.replicate ops.size false).getD i false = true) = (λ_=>False):=funext λi=>propext ⟨λhi=>absurd ((hfalse i).symm.trans hi) Bool.false_ne_true,False.elim⟩
 rw [this]; exact h0
theorem mask_eq {rd:List Nat} {s s':List AV} (hl:s'.length = s.length) (he:∀ t ∈ rd,s'.getD t .any = s.getD t .any):mask rd s' = mask rd s:=by
 refine List.ext_getElem? λt=>?_
 simp only [mask,List.getElem?_mapIdx]
 by_cases ht:t < s.length
 ·have ht':t < s'.length:=by omega
  rw [gEe ht,gEe ht']
  by_cases hr:t ∈ rd
  ·have:=he t hr
   simp only [gDd,gEe ht,gEe ht',Option.getD_some] at this; simp [this]
  ·simp [hr]
 ·rw [List.getElem?_eq_none (by omega),List.getElem?_eq_none (by omega)]
theorem StepOk.mask_iff {i:Ins} {s:List AV} {G G':List ABlk} {v:AV}:StepOk P i (mask i.sl s) G v G' ↔ StepOk P i s G v G':=by
 have hk:∀ t ∈ i.k.sl,t ∈ i.sl:=λt ht=>List.mem_append.2 (.inl ht)
 have hw:wanted (mask i.sl s) i.g = wanted s i.g:=by
  cases hg:i.g with
  | none=>rfl
  | some gb =>
   obtain ⟨g,b⟩:=gb; have:g ∈ i.sl:=List.mem_append.2 (.inr (by simp [hg])); simp only [wanted,mask_get this]
 generalize i.sl = rd at hk hw
 obtain ⟨d,k,g⟩:=i; simp only at hk hw
 unfold StepOk
 simp only [hw]; have ev:=evK_mask (rd:=rd) (s:=s) (G:=G) (k:=k) hk
 cases k with
 | call f args=>simp only [map_get_mask (l:=args) hk]
 | callv x args =>
  have hg:get (mask rd s) x = get s x:=get_mask λt ht=>hk t (List.mem_append.2 (.inl ht))
  have ha:args.map (get (mask rd s)) = args.map (get s):=map_get_mask λt ht=>hk t (List.mem_append.2 (.inr ht))
  simp only [hg,ha]
 | inv tb x args =>
  have hg:get (mask rd s) x = get s x:=get_mask λt ht=>hk t (List.mem_append.2 (.inl ht))
  have ha:args.map (get (mask rd s)) = args.map (get s):=map_get_mask λt ht=>hk t (List.mem_append.2 (.inr ht))
  simp only [hg,ha]
 | _=>simp only [ev]
theorem StepOk.congr {i:Ins} {s s':List AV} {G G':List ABlk} {v:AV} (h:StepOk P i s G v G') (hl:s'.length = s.length) (he:∀ t ∈ i.sl,s'.getD t .any = s.getD t .any):StepOk P i s' G v G':=by
 rw [<- StepOk.mask_iff] at h ⊢; rw [mask_eq hl he]; exact h
theorem StepOk.run {i:Ins} {s:List AV} {G G':List ABlk} {v:AV} (h:StepOk P i s G v G') {Kk:List AV->List ABlk->Prop} (hk:Kk (setO s i.dst v) G'):wpIns P [i] s G Kk:=by
 unfold StepOk at h
 split at h
 ·rename_i hwt
  simp only [wpIns,hwt]
  split at h
  ·rename_i f args e
   simp only [e]; exact h.mono λv' G'' hh=>by rw [hh.1,hh.2]; exact hk
  ·rename_i g args e
   simp only [e]
   split at h
   ·rename_i hfn
    simp only [hfn]; exact ⟨h.1,h.2.mono λv' G'' hh=>by rw [hh.1,hh.2]; exact hk⟩
   ·rename_i hfn
    simp only [hfn]; exact ⟨h.1,h.2.mono λv' G'' hh=>by rw [hh.1,hh.2]; exact hk⟩
   ·exact h.elim
  ·rename_i tb x args e
   simp only [e]
   split at h
   ·rename_i hfn
    simp only [hfn]
    split at h
    ·rename_i hf
     simp only [hf]; exact h.mono λv' G'' hh=>by rw [hh.1,hh.2]; exact hk
    ·exact h.elim
   ·exact h.elim
  ·rename_i x1 x2 x3
   split
   ·rename_i f args e; exact (x1 f args e).elim
   ·rename_i g args e; exact (x2 g args e).elim
   ·rename_i tb x args e; exact (x3 tb x args e).elim
   ·rw [h]; exact hk
 ·rename_i hwt
  simp only [wpIns,hwt]; obtain ⟨rfl,rfl⟩:=h; exact hk
 ·exact h.elim
def SlI (l:List Ins) (s:List AV) (v:Nat->AV) (L:Nat->Prop) (s':List AV):Prop:=
 s'.length = s.length/\∀ t,t < s.length->(∃ k,L k/\wrOf l k = some t/\(∀ k',L k'->wrOf l k' = some t->k'<=k)/\s'.getD t .any = v k)\/((∀ k,L k->wrOf l k ≠ some t)/\s'.getD t .any = s.getD t .any)
theorem setO_getD {s:List AV} {d:Option Nat} {x:AV} {t:Nat} (ht:t < s.length):(setO s d x).getD t .any = if d = some t then x else s.getD t .any:=by
 cases d with
 | none=>simp [setO]
 | some d =>
  by_cases h:d = t
  ·subst h; simp [setO,ht]
  ·simp [setO,gDd,List.getElem?_set_ne h,h]
theorem setO_length {s:List AV} {d:Option Nat} {x:AV}:(setO s d x).length = s.length:=by cases d <;> simp [setO]
theorem SlI.same {v:Nat->AV} {L L':Nat->Prop} {s1 s2:List AV} (h:SlI l s v L s1) (h':SlI l s v L' s2) {t:Nat} (ht:t < s.length) (hL:∀ k,wrOf l k = some t->(L k ↔ L' k)):s1.getD t .any = s2.getD t .any:=by
 rcases h.2 t ht with ⟨k,a1,a2,a3,a4⟩ | ⟨a1,a2⟩
 ·rcases h'.2 t ht with ⟨k',b1,b2,b3,b4⟩ | ⟨b1,b2⟩
  ·have:k = k':=Nat.le_antisymm (b3 k ((hL k a2).1 a1) a2) (a3 k' ((hL k' b2).2 b1) b2)
   rw [a4,b4,this]
  ·exact absurd a2 (b1 k ((hL k a2).1 a1))
 ·rcases h'.2 t ht with ⟨k',b1,b2,b3,b4⟩ | ⟨b1,b2⟩
  ·exact absurd b2 (a1 k' ((hL k' b2).2 b1))
  ·rw [a2,b2]
theorem SlI.step {v:Nat->AV} {L:Nat->Prop} {s1:List AV} (h:SlI l s v L s1) {j:Nat} {i:Ins} (hj:l[j]? = some i) (hmax:∀ k t,L k->wrOf l k = some t->wrOf l j = some t->k<=j):SlI l s v (λk=>L k\/k = j) (setO s1 i.dst (v j)):=by
 refine ⟨by rw [setO_length]; exact h.1,λt ht=>?_⟩; rw [setO_getD (by rw [h.1]; exact ht)]; have hw:wrOf l j = i.dst:=by simp [wrOf,hj]
 by_cases hd:i.dst = some t
 ·rw [if_pos hd]
  refine .inl ⟨j,.inr rfl,by rw [hw,hd],λk' hk' hb=>?_,rfl⟩; rcases hk' with hk' | hk'
  ·exact hmax k' t hk' hb (by rw [hw,hd])
  ·omega
 ·rw [if_neg hd]
  rcases h.2 t ht with ⟨k,a1,a2,a3,a4⟩ | ⟨a1,a2⟩
  ·refine .inl ⟨k,.inl a1,a2,λk' hk' hb=>?_,a4⟩
   rcases hk' with hk' | hk'
   ·exact a3 k' hk' hb
   ·subst hk'; exact absurd (hw ▸ hb) hd
  ·refine .inr ⟨λk hk hb=>?_,a2⟩
   rcases hk with hk | hk
   ·exact a1 k hk hb
   ·subst hk; exact hd (hw ▸ hb)
theorem SlI.seq {v:Nat->AV} {st:Nat->List AV} (st0:st 0 = s) (stn:∀ k i,l[k]? = some i->st (k + 1) = setO (st k) i.dst (v k)):∀ j,j<=l.length->SlI l s v (· < j) (st j)
 | 0,_=>⟨by rw [st0],λt ht=>.inr ⟨λk hk=>absurd hk (Nat.not_lt_zero k),by rw [st0]⟩⟩
 | j + 1,hj=>by
  have hi:l[j]? = some (l[j]'(by omega)):=gEe (by omega); rw [stn j _ hi]; have:=(SlI.seq st0 stn j (by omega)).step hi λk t hk _ _=>Nat.le_of_lt hk
  rwa [show (λk=>k < j\/k = j) = λk=>k < j + 1 from funext λk=>propext (by omega)] at this
theorem draw_slots (ok:drawOk pr l = true) {i j:Nat} (hj:j < l.length) (hij:i < j):i ∈ ancOf pr j \/
 ((∀ d,wrOf l i = some d->d ∉ rdOf l j/\wrOf l j ≠ some d)/\∀ d,wrOf l j = some d->d ∉ rdOf l i):=by
 simp only [drawOk,List.all_eq_true,List.mem_range,Bool.and_eq_true] at ok; have h:=(ok j hj).2 i hij; simp only [Bool.or_eq_true,List.contains_iff_mem,Bool.and_eq_true] at h; rcases h with h | ⟨h1,h2⟩
 ·exact .inl h
 ·refine .inr ⟨λd hd=>?_,λd hd=>?_⟩
  ·rw [hd] at h1
   simpa using h1
  ·rw [hd] at h2
   simpa using h2
theorem draw_pred (ok:drawOk pr l = true) {j i:Nat} (hj:j < l.length) (hi:i ∈ pr.getD j []):i < j:=by
 simp only [drawOk,List.all_eq_true,List.mem_range,Bool.and_eq_true,decide_eq_true_eq] at ok; exact (ok j hj).1 i hi
theorem SlI.look {v:Nat->AV} {st:Nat->List AV} (st0:st 0 = s) (stn:∀ k i,l[k]? = some i->st (k + 1) = setO (st k) i.dst (v k)) (ok:drawOk pr l = true) {L:Nat->Prop} (hL:∀ k,L k->k < l.length)
 (hdc:∀ i,L i->∀ k ∈ pr.getD i [],L k) {j:Nat} {i:Ins} (hj:l[j]? = some i) (hnj:¬ L j) (hpj:∀ k ∈ pr.getD j [],L k) {s1:List AV} (h:SlI l s v L s1) :
 (s1.length = (st j).length/\∀ t ∈ i.sl,s1.getD t .any = (st j).getD t .any)/\SlI l s v (λk=>L k\/k = j) (setO s1 i.dst (v j)):=by
 have hjl:j < l.length:=(List.getElem?_eq_some_iff.1 hj).1; have hsq:=SlI.seq st0 stn j (Nat.le_of_lt hjl); have hanc:∀ k ∈ ancOf pr j,L k:=λk hk=>reach_closed hdc (anc_reach pr j k hk) hpj
 have hnanc:∀ {k:Nat},L k->j ∉ ancOf pr k:=λ{k} hk hjk=>hnj (reach_closed hdc (anc_reach pr k j hjk) (hdc k hk))
 have hrd:rdOf l j = i.sl:=by simp [rdOf,hj]
 refine ⟨⟨h.1.trans hsq.1.symm,λt ht=>?_⟩,h.step hj λk t hk h1 h2=>?_⟩
 ·by_cases hts:t < s.length
  ·refine h.same hsq hts λk hk=>?_
   have hkl:k < l.length:=by
    rcases Nat.lt_or_ge k l.length with h | h
    ·exact h
    ·simp [wrOf,List.getElem?_eq_none h] at hk
   rcases Nat.lt_trichotomy k j with h | h | h
   ·refine ⟨λ_=>h,λ_=>?_⟩
    rcases draw_slots ok hjl h with h1 | ⟨h1,_⟩
    ·exact hanc k h1
    ·exact absurd ht (by rw [<- hrd]; exact (h1 t hk).1)
   ·subst h; exact ⟨λh=>absurd h hnj,λh=>absurd h (Nat.lt_irrefl _)⟩
   ·refine ⟨λhLk=>?_,λh=>by omega⟩
    rcases draw_slots ok hkl h with h1 | ⟨_,h1⟩
    ·exact absurd h1 (hnanc hLk)
    ·exact absurd ht (by rw [<- hrd]; exact h1 t hk)
  ·simp only [gDd]
   rw [List.getElem?_eq_none (by rw [h.1]; omega),List.getElem?_eq_none (by rw [hsq.1]; omega)]
 ·rcases Nat.lt_trichotomy k j with h | h | h
  ·omega
  ·omega
  ·rcases draw_slots ok (hL k hk) h with h3 | ⟨h3,_⟩
   ·exact absurd h3 (hnanc hk)
   ·exact absurd h1 (h3 t h2).2
theorem W.dregC {nb:Nat} {hint:Nat->Option Md} {Q:APost} (hm:P.follows .mixedOrders = true) (ok:drawOk pr l = true) (wr:Nat->Bool) (st:Nat->List AV) (Hs:Nat->List ABlk) (v:Nat->AV)
 (st0:st 0 = s) (H0:Hs 0 = H) (stn:∀ k i,l[k]? = some i->st (k + 1) = setO (st k) i.dst (v k))
 (hch:∀ i j,i < j->j < l.length->wr i = true->i ∈ ancOf pr j\/(wr j = false/\∀ x,l[j]? = some x->∀ G,StepOk P x (st j) G (v j) G))
 (hq:∀ j,j < l.length->wr j = false->Hs (j + 1) = Hs j)
 (hs:∀ j i,l[j]? = some i->StepOk P i (st j) (Hs j) (v j) (Hs (j + 1)))
 (ha:∀ j q i,l[j]? = some i->wr j = false->wr q = true->j < q->q < l.length->j ∉ ancOf pr q->StepOk P i (st j) (Hs (q + 1)) (v j) (Hs (q + 1)))
 (hQ:Q .normal (st l.length) (Hs l.length)):W P hint nb (.dreg pr l) s H Q:=by
 have hcon:∀ d m,m + d<=l.length->(∀ k,m<=k->k < m + d->wr k = false)->Hs (m + d) = Hs m:=by
  intro d
  induction d with
  | zero=>intro m _ _; rfl
  | succ d ih =>
   intro m h1 h2
   rw [<- ih m (by omega) λk a b=>h2 k a (by omega)]; exact hq (m + d) (by omega) (h2 (m + d) (by omega) (by omega))
 have hcon:∀ m m',m<=m'->m'<=l.length->(∀ k,m<=k->k < m'->wr k = false)->Hs m' = Hs m:=λm m' h1 h2 h3=>by
  have:=hcon (m' - m) m (by omega) λk a b=>h3 k a (by omega)
  rwa [show m + (m' - m) = m' by omega] at this
 have wrF:∀ k,¬ wr k = true->wr k = false:=λk h=>by cases hk:wr k with | true=>exact absurd hk h | false=>rfl
 refine W.dregJ hm (λj hj k hk=>draw_pred ok hj hk) (λL s' H'=>SlI l s v L s'/\∃ m,m<=l.length/\H' = Hs m/\∀ k,k < l.length->wr k = true->(L k ↔ k < m))
  ⟨⟨rfl,λt ht=>.inr ⟨λ_ h=>h.elim,rfl⟩⟩,0,Nat.zero_le _,H0.symm,λk _ _=>⟨λh=>h.elim,λh=>absurd h (Nat.not_lt_zero k)⟩⟩ ?_ ?_
 ·rintro L j i s' H' hL hdc hj hnj hpj ⟨hsl,m,hml,rfl,hwm⟩
  have hjl:j < l.length:=(List.getElem?_eq_some_iff.1 hj).1; obtain ⟨⟨hlen,hlook⟩,hnext⟩:=hsl.look st0 stn ok hL hdc hj hnj hpj; have hanc:∀ k ∈ ancOf pr j,L k:=λk hk=>reach_closed hdc (anc_reach pr j k hk) hpj
  have hnanc:∀ {k:Nat},L k->j ∉ ancOf pr k:=λ{k} hk hjk=>hnj (reach_closed hdc (anc_reach pr k j hjk) (hdc k hk))
  by_cases hwj:wr j = true
  ·have hmj : m <= j := by
    rcases Nat.lt_or_ge j m with h | h
    ·exact absurd ((hwm j hjl hwj).2 h) hnj
    ·exact h
   have hch:∀ i j,i < j->j < l.length->wr i = true->wr j = true->i ∈ ancOf pr j:=λi j h1 h2 h3 h4=>(hch i j h1 h2 h3).resolve_right λh=>by rw [h.1] at h4; cases h4
   have e:Hs j = Hs m:=hcon m j hmj (by omega) λk h1 h2=>wrF k λhk=>by
    have:=(hwm k (by omega) hk).1 (hanc k (hch k j h2 hjl hk hwj)); omega
   rw [<- e]; refine ((hs j i hj).congr hlen hlook).run ⟨hnext,j + 1,by omega,rfl,λk hk hkw=>⟨λh=>?_,λh=>?_⟩⟩
   ·rcases h with h | h
    ·have:=(hwm k hk hkw).1 h; omega
    ·omega
   ·rcases Nat.lt_or_ge k j with h' | h'
    ·exact .inl (hanc k (hch k j h' hjl hkw hwj))
    ·exact .inr (by omega)
  ·have hwj:=wrF j hwj
   have hst:StepOk P i (st j) (Hs m) (v j) (Hs m):=by
    by_cases hpu:∀ x,l[j]? = some x->∀ G,StepOk P x (st j) G (v j) G
    ·exact hpu i hj _
    have hch:∀ i,i < j->wr i = true->i ∈ ancOf pr j:=λi h1 h3=>(hch i j h1 hjl h3).resolve_right λh=>hpu h.2
    have hlast:∀ n,(∃ q,j < q/\q < n/\wr q = true/\∀ k,q < k->k < n->wr k = false)\/(∀ k,j < k->k < n->wr k = false):=by
     intro n
     induction n with
     | zero=>exact .inr λk _ h=>absurd h (Nat.not_lt_zero k)
     | succ n ih =>
      by_cases h:j < n/\wr n = true
      ·exact .inl ⟨n,h.1,by omega,h.2,λk h1 h2=>by omega⟩
      ·have hn:∀ k,j < k->k = n->wr k = false:=λk h1 h2=>wrF k λhk=>h ⟨by omega,by rw [<- h2]; exact hk⟩
       rcases ih with ⟨q,a,b,c,d⟩ | ih
       ·exact .inl ⟨q, a, by omega, c, fun k h1 h2 => by
         rcases Nat.lt_or_ge k n with h3 | h3
         ·exact d k h1 h3
         ·exact hn k (by omega) (by omega)⟩
       ·exact .inr fun k h1 h2 => by
         rcases Nat.lt_or_ge k n with h3 | h3
         ·exact ih k h1 h3
         ·exact hn k h1 (by omega)
    rcases hlast m with ⟨q,a,b,c,d⟩ | h
    ·have hLq:L q:=(hwm q (by omega) c).2 b
     have:=ha j q i hj hwj c a (by omega) (hnanc hLq)
     rwa [<- hcon (q + 1) m (by omega) hml λk h1 h2=>d k (by omega) h2] at this
    ·have e : Hs m = Hs j := by
      rcases Nat.lt_or_ge j m with h1 | h1
      ·exact hcon j m (by omega) hml fun k h2 h3 => by
        rcases Nat.lt_or_ge j k with h4 | h4
        ·exact h k h4 h3
        ·have:k = j:=by omega
         subst this; exact hwj
      ·exact (hcon m j h1 (by omega) fun k h2 h3 => wrF k fun hk => by
        have:=(hwm k (by omega) hk).1 (hanc k (hch k h3 hk))
        omega).symm
     have:=hs j i hj; rw [hq j hjl hwj] at this; rw [e]; exact this
   refine (hst.congr hlen hlook).run ⟨hnext,m,hml,rfl,λk hk hkw=>⟨λh=>?_,λh=>.inl ((hwm k hk hkw).2 h)⟩⟩; rcases h with h | h
   ·exact (hwm k hk hkw).1 h
   ·subst h; rw [hwj] at hkw; cases hkw
 ·rintro s' H' ⟨hsl,m,hml,rfl,hwm⟩
  have hsq:=SlI.seq st0 stn l.length (Nat.le_refl _); have e1:s' = st l.length:=by
   refine List.ext_getElem? λt=>?_
   by_cases ht:t < s.length
   ·have:=hsl.same hsq ht λk _=>Iff.rfl
    have h1:t < s'.length:=by rw [hsl.1]; exact ht
    have h2:t < (st l.length).length:=by rw [hsq.1]; exact ht
    simp only [gDd,gEe h1,gEe h2,Option.getD_some] at this; rw [gEe h1,gEe h2,this]
   ·rw [List.getElem?_eq_none (by rw [hsl.1]; omega),List.getElem?_eq_none (by rw [hsq.1]; omega)]
  have e2:Hs l.length = Hs m:=hcon m l.length hml (Nat.le_refl _) λk h1 h2=>wrF k λhk=>by
   have:=(hwm k h2 hk).1 h2; omega
  rw [e1,<- e2]; exact hQ
end
noncomputable section
theorem peq_iff {p q:Pth} (h:peq p q = true):num p = num q:=Nat.eq_of_beq_eq_true h
theorem bifT {a b:Bool} (h:bif' a b false = true):a = true/\b = true:=by cases a <;> first | (cases h; done) | exact ⟨rfl,h⟩
theorem feq1_ok {x y:FV} (h:feq1 x y = true):toA x = toA y:=by
 cases x with
 | nilp=>cases y <;> first | rfl | (cases h; done)
 | mnil=>cases y <;> first | rfl | (cases h; done)
 | esl=>cases y <;> first | rfl | (cases h; done)
 | nili=>cases y <;> first | rfl | (cases h; done)
 | mp p =>
  cases y with
  | mp q=>simp only [toA,peq_iff (show peq p q = true from h)]
  | _=>cases h
 | s l c =>
  cases y with
  | s l' c' =>
   obtain ⟨h1,h2⟩:=bifT (show bif' (Nat.beq l l') (Nat.beq c c') false = true from h); rw [Nat.eq_of_beq_eq_true h1,Nat.eq_of_beq_eq_true h2]
  | _=>cases h
 | hsl p o n c z =>
  cases y with
  | hsl p' o' n' c' z' =>
   obtain ⟨h1,h⟩:=bifT (show bif' (peq p p') (bif' (Nat.beq o o') (bif' (Nat.beq n n') (bif' (Nat.beq c c') (Nat.beq z z') false) false) false) false = true from h); obtain ⟨h2,h⟩:=bifT h; obtain ⟨h3,h⟩:=bifT h; obtain ⟨h4,h5⟩:=bifT h; simp only [toA,peq_iff h1,Nat.eq_of_beq_eq_true h2,Nat.eq_of_beq_eq_true h3,Nat.eq_of_beq_eq_true h4,Nat.eq_of_beq_eq_true h5]
  | _=>cases h
 | b t =>
  cases y with
  | b u=>cases t <;> cases u <;> first | rfl | (cases h; done)
  | _=>cases h
 | ptr p o =>
  cases y with
  | ptr p' o' =>
   obtain ⟨h1,h2⟩:=bifT (show bif' (peq p p') (Nat.beq o o') false = true from h); simp only [toA,peq_iff h1,Nat.eq_of_beq_eq_true h2]
  | _=>cases h
 | i k n =>
  cases y with
  | i k' m =>
   obtain ⟨h1,h2⟩:=bifT (show bif' (Nat.beq (kN k) (kN k')) (ieq n m) false = true from h); rw [kN_inj h1,show n = m by rw [ieq_eq] at h2; exact beq_iff_eq.1 h2]
  | _=>cases h
 | _=>cases h
theorem feqL_ok:∀ {a b:List FV},feqL a b = true->toAs a = toAs b
 | [],[],_=>rfl
 | [],_ :: _,h=>by cases h
 | _ :: _,[],h=>by cases h
 | x :: a,y :: b,h=>by
  obtain ⟨h1,h2⟩:=bifT (show bif' (feq1 x y) (feqL a b) false = true from h); simp only [toAs,feq1_ok h1,feqL_ok h2]
theorem feq_ok {x y:FV} (h:feq x y = true):toA x = toA y:=by
 cases x with
 | agg cs =>
  cases y with
  | agg ds=>simp only [toA,feqL_ok (show feqL cs ds = true from h)]
  | _=>cases h
 | x=>cases h
 | fn=>cases h
 | fnb=>cases h
 | ifc=>cases h
 | tup=>cases h
 | _=>exact feq1_ok h
section
variable {P:Program} {F:FC'} {okf:Nat->Bool} {hint:Nat->Option Md} {nb:Nat}
theorem KCalls.step {i:Ins} {S:List AV} {H H':List ABlk} {v:AV} (hw:wanted S i.g = some true) (h:∀ Φ:AV->List ABlk->Prop,Φ v H'->KCalls P i.k S H Φ):StepOk P i S H v H':=by
 have h:=h (λv' H''=>v' = v/\H'' = H') ⟨rfl,rfl⟩; obtain ⟨d,k,g⟩:=i; simp only at hw h
 unfold StepOk
 simp only [hw]
 cases k <;> simp only [KCalls] at h ⊢ <;> first
  | exact h
  | (split at h
     ·rename_i v' H'' e
      rw [e,h.1,h.2]
     ·exact h.elim)
def SChain (P:Program) (an:List Nat) (l0:List Ins):Nat->List Ins->List AV->List ABlk->(List AV->List ABlk->Prop)->Prop
 | _,[],s,H,Kk=>Kk s H
 | j,i :: r,s,H,Kk=>∃ v H',StepOk P i s H v H'/\(qk i.k = true->H' = H) /\
  (qk i.k = false->∀ j0,j0 < j->(an.getD j 0).testBit j0 = false->∀ x d,l0[j0]? = some x->x.dst = some d->StepOk P x (setO s i.dst v) H' ((setO s i.dst v).getD d .any) H')/\SChain P an l0 (j + 1) r (setO s i.dst v) H' Kk
theorem SChain.seq {an:List Nat} {l0:List Ins} {Kk:List AV->List ABlk->Prop}:∀ (l:List Ins) (j:Nat) (s:List AV) (H:List ABlk),SChain P an l0 j l s H Kk ->
 ∃ (st:Nat->List AV) (Hs:Nat->List ABlk) (v:Nat->AV),st j = s/\Hs j = H/\(∀ k i,l[k]? = some i->StepOk P i (st (j + k)) (Hs (j + k)) (v (j + k)) (Hs (j + k + 1)) /\
  st (j + k + 1) = setO (st (j + k)) i.dst (v (j + k))/\(qk i.k = true->Hs (j + k + 1) = Hs (j + k)) /\
  (qk i.k = false->∀ j0,j0 < j + k->(an.getD (j + k) 0).testBit j0 = false->∀ x d,l0[j0]? = some x->x.dst = some d->StepOk P x (st (j + k + 1)) (Hs (j + k + 1)) ((st (j + k + 1)).getD d .any) (Hs (j + k + 1))))/\Kk (st (j + l.length)) (Hs (j + l.length))
 | [],j,s,H,h=>⟨λ_=>s,λ_=>H,λ_=>.any,rfl,rfl,λk i hk=>by simp at hk,h⟩
 | i :: l,j,s,H,h=>by
  obtain ⟨v0,H',h1,h2,h3,h4⟩:=h; obtain ⟨st,Hs,v,e1,e2,e3,e4⟩:=SChain.seq l (j + 1) _ H' h4; have hst:∀ k,(if j + 1 + k = j then s else st (j + 1 + k)) = st (j + 1 + k):=λk=>if_neg (by omega)
  refine ⟨λk=>if k = j then s else st k,λk=>if k = j then H else Hs k,λk=>if k = j then v0 else v k,by simp,by simp,λk i' hk=>?_,?_⟩
  ·cases k with
   | zero =>
    simp only [List.length_cons,List.getElem?_cons_zero,Option.some.injEq] at hk; subst hk; simp only [Nat.add_zero,if_true,if_neg (show ¬ j + 1 = j by omega),e1,e2]; exact ⟨h1,trivial,h2,h3⟩
   | succ k =>
    have hk':l[k]? = some i':=by simpa using hk
    have:=e3 k i' hk'; simp only [show j + (k + 1) = j + 1 + k by omega,if_neg (show ¬ j + 1 + k = j by omega),if_neg (show ¬ j + 1 + k + 1 = j by omega)]; exact this
  ·simp only [List.length_cons,show j + (l.length + 1) = j + 1 + l.length by omega,if_neg (show ¬ j + 1 + l.length = j by omega)]
   exact e4
theorem reOk_ok {an:List Nat} {l0:List Ins} {q:Nat} {t:Fr} {S:List AV} {h:Hp} {H:List ABlk} (hf:FrR t S) (hr:HpR h H):∀ {L:List Nat},(∀ j ∈ L,∀ x,l0[j]? = some x->qk x.k = true/\x.g = none/\InsIn S.length x) ->
 reOk F okf (flk an l0 q L) t h = true->∀ j ∈ L,∀ x d,l0[j]? = some x->x.dst = some d->StepOk P x S H (S.getD d .any) H
 | [],_,_,j,hj,_,_,_,_=>absurd hj List.not_mem_nil
 | a :: L,hL,e,j,hj,x,d,hx,hd=>by
  have e':=e; have hrest:reOk F okf (flk an l0 q L) t h = true:=by
   unfold flk at e'
   split at e'
   ·rename_i d k hq
    have e':(FR.rec (motive:=λ_=>Bool) false (λv _=>bif' (feq v (slot d t)) (reOk F okf (flk an l0 q L) t h) false) (evFK F okf (fk k) t h):Bool) = true:=e'
    cases hv:evFK F okf (fk k) t h with
    | no=>rw [hv] at e'; cases e'
    | ok v h'=>rw [hv] at e'; exact (bifT e').2
   ·exact e'
  rcases List.mem_cons.1 hj with rfl | hj
  ·unfold flk at e
   have:(l0[j]?).bind (λi=>i.dst.map λd=>(d,i.k)) = some (d,x.k):=by rw [hx]; simp [hd]
   rw [this] at e; have e:(FR.rec (motive:=λ_=>Bool) false (λv _=>bif' (feq v (slot d t)) (reOk F okf (flk an l0 q L) t h) false) (evFK F okf (fk x.k) t h):Bool) = true:=e; obtain ⟨hq,hg,hin⟩:=hL j List.mem_cons_self x hx
   cases hv:evFK F okf (fk x.k) t h with
   | no=>rw [hv] at e; cases e
   | ok v h' =>
    rw [hv] at e; have hfe:=feq_ok (bifT e).1; obtain ⟨pre,H1,a,b,c⟩:=evFK_ok hf (λn hn=>hin.sl n (List.mem_append.2 (.inl hn))) (qk_call hq) hr hv; have c:evK x.k S H = some (toA v,H1):=c [] (λb hb=>absurd hb List.not_mem_nil); have:=quiet_same (qk_cls hq) c; subst this; have hdl:=hin.dst d hd; rw [hf.at' d hdl,<- hfe]; exact StepOk_one (by rw [hg]; rfl) (qk_call hq) c
  ·exact reOk_ok hf hr (λj hj=>hL j (List.mem_cons_of_mem _ hj)) hrest j hj x d hx hd
theorem StepOk_one' {i:Ins} {S:List AV} {G G':List ABlk} {v:AV} (hw:wanted S i.g = some true) (hc:isCall i.k = false) (h:StepOk P i S G v G'):evK i.k S G = some (v,G'):=by
 obtain ⟨d,k,g⟩:=i; simp only at hw hc ⊢
 cases k <;> first | (cases hc; done) | (simpa only [StepOk,hw] using h)
theorem pure0 {k:K} {S:List AV} {H H':List ABlk} {a:AV} (H2:List ABlk) (hk:kcls k = 0) (e:evK k S H = some (a,H')):evK k S H2 = some (a,H2):=by
 cases k <;> first
  | (cases hk; done)
  | (simp only [evK, Option.map_eq_some_iff] at e ⊢
     obtain ⟨x,e1,e⟩:=e
     injection e with e2 _
     exact ⟨x,e1,by rw [e2]⟩)
  | (simp only [evK] at e ⊢
     repeat' split at e
     all_goals first
      | (cases e; done)
      | (injection e with e; injection e with e _; simp_all))
theorem fSs_ok (hF:FOk P F) (hok:∀ f,okf f = true->callOk P f = true) {an:List Nat} {l0:List Ins} (hq:∀ q j a b,j < q->(an.getD q 0).testBit j = false->l0[j]? = some a->l0[q]? = some b->qk b.k = false->qk a.k = true) (hg:∀ i ∈ l0,i.g = none) {n:Nat} (hin:∀ i ∈ l0,InsIn n i) :
 ∀ {l:List Ins} {j:Nat} {t:Fr} {S:List AV} {h:Hp} {H:List ABlk} {e:FE} {t':Fr} {h':Hp},(∀ k,l[k]? = l0[j + k]?)->S.length = n->FrR t S->HpR h H->fSs F okf (fss an l0 j l) t h = .ok e t' h' ->
  e = .nrm/\∃ pre S' H',HpR h' H'/\Fra pre h h' H H'/\FrR t' S'/\S'.length = S.length/\∀ Kk:List AV->List ABlk->Prop,Kk S' H'->SChain P an l0 j l S H Kk
 | [],j,t,S,h,H,e,t',h',hl,hn,hf,hr,hx=>by
  cases (show FX.ok .nrm t h = .ok e t' h' from hx)
  exact ⟨rfl,[],S,H,hr,.refl h H,hf,rfl,λKk hK=>hK⟩
 | i :: l,j,t,S,h,H,e,t',h',hl,hn,hf,hr,hx=>by
  have hij:l0[j]? = some i:=(hl 0).symm; have hmem:i ∈ l0:=List.mem_of_getElem? hij; have hi:=hin i hmem; obtain ⟨v,h1,e1,e2⟩:=onR_ok (show onR (λv h=>bif' (reOk F okf (bif qk i.k then .nil else flk an l0 j (nearJ an l0 j)) (putD (fd i.dst) v t) h) (fSs F okf (fss an l0 (j + 1) l) (putD (fd i.dst) v t) h) .no) (evFK F okf (fk i.k) t h) = .ok e t' h' from hx); obtain ⟨c1,e3⟩:=bifX e2; obtain ⟨pre,H1,a,b,c⟩:=evFK_any hF hok hf (λn' hn'=>by rw [hn]; exact hi.sl n' (List.mem_append.2 (.inl hn'))) hr e1; have hst:StepOk P i S H (toA v) H1:=KCalls.step (by rw [hg i hmem]; rfl) c; have hf1:=putD_ok hf (by rw [hn]; exact hi.dst) v; have hlen:(setO S i.dst (toA v)).length = n:=by rw [setO_len,hn]
  obtain ⟨he,pre',S',H',a',b',f',l',k'⟩:=fSs_ok hF hok hq hg hin (l:=l) (j:=j + 1) (λk=>by rw [<- show j + (k + 1) = j + 1 + k by omega,<- hl (k + 1)]; rfl) hlen hf1 a e3; refine ⟨he,pre' ++ pre,S',H',a',b.trans b',f',by rw [l',setO_len],λKk hK=>⟨toA v,H1,hst,λhqi=>?_,λhqi=>?_,k' Kk hK⟩⟩
  ·have c:=c (λv' H''=>H'' = H1) rfl
   have hcl:=qk_call hqi; have:∃ a,evK i.k S H = some (a,H1):=by
    revert c hcl
    cases i.k <;> intro c hcl <;> first
     | (cases hcl; done)
     | (simp only [KCalls] at c
        split at c
        ·rename_i v' H'' e; rw [e,c]; exact ⟨_,rfl⟩
        ·exact c.elim)
   obtain ⟨a,ha⟩:=this; exact quiet_same (qk_cls hqi) ha
  ·intro j0 hj0 hb x d hx hd
   rw [hqi] at c1; refine reOk_ok (P:=P) hf1 a (λj' hj' x' hx'=>?_) c1 j0 (List.mem_filter.2 ⟨List.mem_range.2 hj0,by rw [hb]; rfl⟩) x d hx hd; obtain ⟨h1,h2⟩:=List.mem_filter.1 hj'; have h1:=List.mem_range.1 h1; have hb':(an.getD j 0).testBit j' = false:=by
    cases hq:(an.getD j 0).testBit j' with
    | true=>rw [hq] at h2; cases h2
    | false=>rfl
   have hm':=List.mem_of_getElem? hx'; exact ⟨hq j j' x' i h1 hb' hx' hij hqi,hg x' hm',by rw [hlen]; exact hin x' hm'⟩
theorem look_slots {l:List Ins} {v:Nat->AV} {st:Nat->List AV} (stn:∀ k i,l[k]? = some i->st (k + 1) = setO (st k) i.dst (v k)) {j q:Nat} (hq:q < l.length) (hjq:j < q) (hl:lookOk l j q = true) :
 (∀ t ∈ rdOf l j,(st (q + 1)).getD t .any = (st j).getD t .any)/\∀ d,wrOf l j = some d->(st (q + 1)).getD d .any = (st (j + 1)).getD d .any:=by
 have hk:∀ k,j<=k->k<=q->∀ d,wrOf l k = some d->d ∉ rdOf l j/\(k = j\/wrOf l j ≠ some d):=λk h1 h2 d hd=>by
  have:=List.all_eq_true.1 hl k (List.mem_range.2 (by omega)); rw [hd] at this; have hb:Nat.blt k j = false:=by
   cases hb:Nat.blt k j with
   | true=>have:=blt_iff.1 hb; omega
   | false=>rfl
  rw [hb] at this; obtain ⟨a,b⟩:=Bool.and_eq_true_iff.1 (show (!(rdOf l j).contains d && (k == j || wrOf l j != some d)) = true from by simpa using this); refine ⟨λhm=>by simp [hm] at a,?_⟩; rcases Bool.or_eq_true_iff.1 b with h | h
  ·exact .inl (by simpa using h)
  ·exact .inr (by simpa using h)
 have one:∀ k t,k < l.length->wrOf l k ≠ some t->(st (k + 1)).getD t .any = (st k).getD t .any:=λk t hkl hw=>by
  have hi:l[k]? = some (l[k]'hkl):=gEe hkl; rw [stn k _ hi]; have hw:l[k].dst ≠ some t:=λh=>hw (by simp [wrOf,hi,h])
  cases hd:l[k].dst with
  | none=>rfl
  | some d =>
   have:d ≠ t:=λe=>hw (by rw [hd,e])
   simp only [setO,gDd,List.getElem?_set_ne this]
 have many:∀ a n t,a + n<=q + 1->(∀ k,a<=k->k < a + n->wrOf l k ≠ some t)->(st (a + n)).getD t .any = (st a).getD t .any:=by
  intro a n t
  induction n with
  | zero=>intro _ _; rfl
  | succ n ih =>
   intro h1 h2
   rw [show a + (n + 1) = a + n + 1 by omega,one (a + n) t (by omega) (h2 (a + n) (by omega) (by omega))]; exact ih (by omega) λk x y=>h2 k x (by omega)
 refine ⟨λt ht=>?_,λd hd=>?_⟩
 ·have:=many j (q + 1 - j) t (by omega) λk h1 h2 hw=>(hk k h1 (by omega) t hw).1 ht
  rwa [show j + (q + 1 - j) = q + 1 by omega] at this
 ·have := many (j + 1) (q - j) d (by omega) fun k h1 h2 hw => by
   rcases (hk k (by omega) (by omega) d hw).2 with h | h
   ·omega
   ·exact h hd
  rwa [show j + 1 + (q - j) = q + 1 by omega] at this
theorem sreg_ok (hF:FOk P F) (hok:∀ f,okf f = true->callOk P f = true) (hm:P.follows .mixedOrders = true) {pr:List (List Nat)} {l:List Ins} {lp:Nat} {t:Fr} {S:List AV} {h:Hp} {H:List ABlk} {e:FE} {t':Fr} {h':Hp}
 (hi:∀ i ∈ l,InsIn S.length i) (hb:drawB' (ancB' pr) pr l = true) (hch:chainB (ancB' pr) l = true) (hf:FrR t S) (hr:HpR h H)
 (hx:fA F okf lp (.sreg (fss (ancB' pr) l 0 l)) t h = .ok e t' h'):ResC P hint nb (.dreg pr l) S h H e t' h':=by
 have hdr:drawOk pr l = true:=by rw [<- drawB_eq']; exact hb
 obtain ⟨hch,_⟩:=Bool.and_eq_true_iff.1 hch; obtain ⟨hg,hch⟩:=Bool.and_eq_true_iff.1 hch; have hg:∀ i ∈ l,i.g = none:=λi hi=>by
  have:=List.all_eq_true.1 hg i hi; have:=(Bool.and_eq_true_iff.1 this).1
  simpa using this
 have hpair:∀ j q a b,j < q->((ancB' pr).getD q 0).testBit j = false->l[j]? = some a->l[q]? = some b->kcls b.k = 0\/(qk a.k = true/\(qk b.k = false->a.dst.isSome = true/\lookOk l j q = true)):=λj q a b hjq ht ha hb'=>by
  have hql:q < l.length:=(List.getElem?_eq_some_iff.1 hb').1; have:=List.all_eq_true.1 (List.all_eq_true.1 hch q (List.mem_range.2 hql)) j (List.mem_range.2 hjq); rw [ht,ha,hb'] at this; rcases Bool.or_eq_true_iff.1 (show ((kcls b.k == 0) || (qk a.k && (qk b.k || (a.dst.isSome && lookOk l j q)))) = true from by simpa using this) with h0 | this
  ·exact .inl (beq_iff_eq.1 h0)
  obtain ⟨x,y⟩:=Bool.and_eq_true_iff.1 this; refine .inr ⟨x,λhqb=>?_⟩; rw [hqb] at y; exact Bool.and_eq_true_iff.1 (by simpa using y)
 have hpair':∀ j q a b,j < q->((ancB' pr).getD q 0).testBit j = false->l[j]? = some a->l[q]? = some b->qk b.k = false->qk a.k = true/\a.dst.isSome = true/\lookOk l j q = true:=λj q a b h1 h2 h3 h4 h5=>by
  rcases hpair j q a b h1 h2 h3 h4 with h | ⟨h,h'⟩
  ·simp [qk,h] at h5
  ·exact ⟨h,h' h5⟩
 obtain ⟨rfl,pre,S',H',a,b,c,d,w⟩:=fSs_ok (P:=P) hF hok (an:=ancB' pr) (l0:=l) (λq j a b h1 h2 h3 h4 h5=>(hpair' j q a b h1 h2 h3 h4 h5).1) hg hi (λk=>by rw [Nat.zero_add]) rfl hf hr (show fSs F okf (fss (ancB' pr) l 0 l) t h = .ok e t' h' from hx); refine ⟨pre,S',H',a,b,c,d,λQ hQ=>?_⟩; obtain ⟨st,Hs,v,e1,e2,e3,e4⟩:=(w (λs1 H1=>Q .normal s1 H1) hQ).seq; simp only [Nat.zero_add] at e3 e4; have han:∀ q j,((ancB' pr).getD q 0).testBit j = true ↔ j ∈ ancOf pr q:=λq j=>by
  rw [(ancB'_eq pr).2]; simp [ancOf]
 have htb:∀ {q j:Nat},j ∉ ancOf pr q->((ancB' pr).getD q 0).testBit j = false:=λ{q j} h=>by
  cases hq:((ancB' pr).getD q 0).testBit j with
  | true=>exact absurd ((han q j).1 hq) h
  | false=>rfl
 have at_:∀ j,j < l.length->∃ i,l[j]? = some i:=λj hj=>⟨_,gEe hj⟩
 refine W.dregC hm hdr (λj=>match l[j]? with | some i=>!qk i.k | none=>false) st Hs v e1 e2 (λk i hk=>(e3 k i hk).2.1) (λi j hij hjl hw=>?_) (λj hj hw=>?_) (λj i hj=>(e3 j i hj).1) (λj q i hj hwj hwq hjq hql hn=>?_) e4
 ·obtain ⟨x,hx⟩:=at_ i (by omega)
  obtain ⟨y,hy⟩:=at_ j hjl
  cases ht:((ancB' pr).getD j 0).testBit i with
  | true=>exact .inl ((han j i).1 ht)
  | false =>
   rcases hpair i j x y hij ht hx hy with h0 | h
   ·refine .inr ⟨by simp [hy,qk,h0],λy' hy' G=>?_⟩
    rw [hy] at hy'; cases hy'; have hw:wanted (st j) y.g = some true:=by rw [hg y (List.mem_of_getElem? hy)]; rfl
    have hcl:isCall y.k = false:=qk_call (by simp [qk,h0]); exact StepOk_one hw hcl (pure0 G h0 (StepOk_one' hw hcl (e3 j y hy).1))
   ·have:=h.1
    simp only [hx,this] at hw
    cases hw
 ·obtain ⟨x,hx⟩:=at_ j hj
  simp only [hx] at hw; exact (e3 j x hx).2.2.1 (by simpa using hw)
 ·obtain ⟨y,hy⟩:=at_ q hql
  have hjl:j < l.length:=by omega
  simp only [hy] at hwq; have hqy:qk y.k = false:=by simpa using hwq
  have ht:=htb hn; obtain ⟨_,hds,hlo⟩:=hpair' j q i y hjq ht hj hy hqy; obtain ⟨d0,hd0⟩:=Option.isSome_iff_exists.1 hds; have hs:=(e3 q y hy).2.2.2 hqy j hjq ht i d0 hj hd0; obtain ⟨q1,q2⟩:=look_slots (λk i hk=>(e3 k i hk).2.1) hql hjq hlo; have hw0:wrOf l j = some d0:=by simp [wrOf,hj,hd0]
  have hstl:∀ k,k<=l.length->(st k).length = S.length:=by
   intro k
   induction k with
   | zero=>intro _; rw [e1]
   | succ k ih =>
    intro hk
    obtain ⟨x,hx⟩:=at_ k (by omega); rw [(e3 k x hx).2.1,setO_length,ih (by omega)]
  have hv:(st (q + 1)).getD d0 .any = v j:=by
   rw [q2 d0 hw0,(e3 j i hj).2.1,hd0]; have:d0 < (st j).length:=by rw [hstl j (by omega)]; exact (hi i (List.mem_of_getElem? hj)).dst d0 hd0
   rw [setO_getD this,if_pos rfl]
  rw [hv] at hs; refine hs.congr ?_ λt ht'=>?_
  ·rw [hstl j (by omega),hstl (q + 1) (by omega)]
  ·exact (q1 t (by simp only [rdOf,hj]; exact ht')).symm
end
end
noncomputable section
section
variable {P:Program} {F:FC'} {okf:Nat->Bool} {hint:Nat->Option Md} {nb:Nat}
theorem ancLt {pr:List (List Nat)} {l:List Ins} (hok:drawOk pr l = true) {j k:Nat} (h:Reach pr j k) (hj:j < l.length):k < j:=by
 have pred:∀ {j i:Nat},j < l.length->i ∈ pr.getD j []->i < j:=λ{j i} hj hi=>by
  have:=hok; simp only [drawOk,List.all_eq_true,List.mem_range,Bool.and_eq_true,decide_eq_true_eq] at this; exact (this j hj).1 i hi
 induction h with
 | one h=>exact pred hj h
 | more h _ ih=>have h1:=pred hj h; have:=ih (by omega); omega
theorem mem_kills {pr ws:List (List Nat)} {n k b:Nat}:b ∈ killsOf pr ws n k ↔ ∃ i,i < n/\i ≠ k/\((anc pr).getD k []).contains i = false/\((anc pr).getD i []).contains k = false/\b ∈ ws.getD i []:=by
 simp only [killsOf,List.mem_flatMap,List.mem_range]; refine exists_congr λi=>and_congr_right λhi=>?_
 by_cases h1:i = k
 ·subst h1; simp
 ·cases h2:((anc pr).getD k []).contains i <;> cases h3:((anc pr).getD i []).contains k <;> simp [h1]
theorem getD_map_range {α:Type} {n k:Nat} {f:Nat->α} {d:α} (h:k < n):((List.range n).map f).getD k d = f k:=by
 rw [gDd,List.getElem?_map,List.getElem?_range h]; rfl
theorem dreg_ok (hF:FOk P F) (hok:∀ f,okf f = true->callOk P f = true) (hm:P.follows .mixedOrders = true) {pr:List (List Nat)} {l:List Ins} {lp:Nat} {t:Fr} {S:List AV} {h:Hp} {H:List ABlk} {e:FE} {t':Fr} {h':Hp}
 (hi:∀ i ∈ l,InsIn S.length i) (hb:drawB' (ancB' pr) pr l = true) (hbd:badD (ancB' pr) (l.map λi=>kcls i.k) l.length = false) (hf:FrR t S) (hr:HpR h H)
 (hx:fA F okf lp (.dreg (fjs (ancB' pr) (l.map λi=>kcls i.k) 0 l)) t h = .ok e t' h'):ResC P hint nb (.dreg pr l) S h H e t' h':=by
 have hdr:drawOk pr l = true:=by rw [<- drawB_eq']; exact hb
 cases h with
 | mk T n lg =>
  have hx:fJs F okf (fjs (ancB' pr) (l.map λi=>kcls i.k) 0 l) .nil lg t (.mk T n .nil) = .ok e t' h':=hx; have hbad:∀ q,q < l.length->∀ i ∈ beforeJ (ancB' pr) (l.map λi=>kcls i.k) q,(l.map λi=>kcls i.k).getD i 5 = 4->(l.map λi=>kcls i.k).getD q 5 = 1\/(l.map λi=>kcls i.k).getD q 5 = 2:=λq hq i hi h4=>by
   have:=List.any_eq_false.1 hbd q (List.mem_range.2 hq); rw [Bool.or_eq_true,not_or] at this; have h2:=this.2; rw [List.any_eq_true] at h2
   cases hq1:((l.map λi=>kcls i.k).getD q 5 == 1 || (l.map λi=>kcls i.k).getD q 5 == 2) with
   | true =>
    rcases Bool.or_eq_true_iff.1 hq1 with h | h
    ·exact .inl (beq_iff_eq.1 h)
    ·exact .inr (beq_iff_eq.1 h)
   | false=>exact absurd ⟨i,hi,by rw [h4,hq1]; rfl⟩ h2
  obtain ⟨rfl,pre,S',H',pf,a1,a2,a3,a4,a5,a6,a7,a8,a9⟩:=fJs_ok (P:=P) (H0:=H) hF hok (N:=l.length) hbad (l:=l) (j:=0) (past:=[]) (rs:=.nil) (lg:=lg) (by rw [Nat.zero_add])
   (λk i hk=>by rw [Nat.zero_add,gDd,List.getElem?_map,hk]; rfl) hi rfl .nil (λi hi=>absurd hi (Nat.not_lt_zero i)) hf (show HpR (.mk T n .nil) H from ⟨hr.n,hr.lt,hr.at',hr.out⟩) rfl hx
  have a8:∀ q,q < l.length->(∀ i,i < q->((anc pr).getD q []).contains i = false->Good (atR pf i) (atR pf q))/\((atR pf q).call = true->∀ b ∈ (atR pf q).W,∃ i,i < q/\((anc pr).getD q []).contains i = false/\b ∈ (atR pf i).ws):=λq hq=>by
   have:=a8 q (Nat.zero_le q) (by rw [Nat.zero_add]; exact hq); simp only [(ancB'_eq pr).2] at this; exact this
  refine ⟨pre,S',H',a1,⟨a3.len,a2,a3.lt,a3.fr,a3.live⟩,a4,a5,λQ hQ=>?_⟩; refine W.dreg ((List.range l.length).map λi=>(atR pf i).ws) ((List.range l.length).map (killsOf pr ((List.range l.length).map λi=>(atR pf i).ws) l.length)) hm hdr rfl ?_; refine a9 _ _ _ (λk _ hk=>?_) (λb hb=>hb) hQ; rw [Nat.zero_add] at hk; rw [getD_map_range hk,getD_map_range hk]; have hU:∀ b,b ∈ killsOf pr ((List.range l.length).map λi=>(atR pf i).ws) l.length k ↔ ∃ i,i < l.length/\i ≠ k/\((anc pr).getD k []).contains i = false/\((anc pr).getD i []).contains k = false/\b ∈ (atR pf i).ws:=λb=>by
   rw [mem_kills]; refine exists_congr λi=>and_congr_right λhi=>?_
   rw [getD_map_range hi]
  refine ⟨rfl,⟨λhc=>⟨λb hb=>?_,λb hb=>?_⟩,λhc b hb=>?_⟩,λb hbk hb=>?_⟩
  ·obtain ⟨i,i1,i2,i3,i4,i5⟩:=(hU b).1 hb
   rcases Nat.lt_or_ge i k with h | h
   ·exact .inl (((a8 k hk).1 i h i3).ab.1 hc b i5)
   ·exact .inr (((a8 i i1).1 k (by omega) i4).ba.1 hc b i5)
  ·obtain ⟨i,i1,i2,i3⟩:=(a8 k hk).2 hc b hb
   refine (hU b).2 ⟨i,by omega,by omega,i2,?_,i3⟩
   cases hq:((anc pr).getD i []).contains k with
   | false=>rfl
   | true =>
    have:=ancLt hdr (anc_reach pr i k (List.contains_iff_mem.1 hq)) (by omega); omega
  ·obtain ⟨i,i1,i2,i3,i4,i5⟩:=(hU b).1 hb
   rcases Nat.lt_or_ge i k with h | h
   ·exact ((a8 k hk).1 i h i3).ab.2 hc b i5
   ·exact ((a8 i i1).1 k (by omega) i4).ba.2 hc b i5
  ·obtain ⟨i,i1,i2,i3,i4,i5⟩:=(hU b).1 hb
   rcases Nat.lt_or_ge i k with h | h
   ·exact ((a8 k hk).1 i h i3).dis b hbk i5
   ·exact ((a8 i i1).1 k (by omega) i4).dis b i5 hbk
def MppOk (P:Program) (hint:Nat->Option Md) (nb:Nat) (F:FC') (okf:Nat->Bool):Prop:=
 ∀ ⦃pr:List (List Nat)⦄ ⦃l:List Ins⦄ ⦃kt:KT⦄ ⦃d1 d2 d3 d4 m k:Nat⦄ ⦃t:Fr⦄ ⦃S:List AV⦄ ⦃h:Hp⦄ ⦃H:List ABlk⦄ ⦃e:FE⦄ ⦃t':Fr⦄ ⦃h':Hp⦄,mppOf pr l = some (kt,d1,d2,d3,d4,m,k) ->
  (∀ i ∈ l,InsIn S.length i)->FrR t S->HpR h H->fMpp F okf kt d1 d2 d3 d4 m k (fis (l.take (l.length - 5))) t h = .ok e t' h'->ResC P hint nb (.dreg pr l) S h H e t' h'
theorem regOk (hF:FOk P F) (hok:∀ f,okf f = true->callOk P f = true) (hm:P.follows .mixedOrders = true) (hM:MppOk P hint nb F okf):RegOk P hint nb F okf:=by
 intro pr l lp t S h H e t' h' hi hf hr hx
 cases hq:mppOf pr l with
 | some p =>
  obtain ⟨kt,d1,d2,d3,d4,m,k⟩:=p; have:fdreg pr l = .mpp kt d1 d2 d3 d4 m k (fis (l.take (l.length - 5))):=by unfold fdreg; rw [hq]
  rw [this] at hx; exact hM hq hi hf hr hx
 | none =>
  have hfd:fdreg pr l = bif drawB' (ancB' pr) pr l then (bif quiet l then .reg (fis l) else bif chainB (ancB' pr) l then .sreg (fss (ancB' pr) l 0 l) else bif badD (ancB' pr) (l.map λi=>kcls i.k) l.length then .no else .dreg (fjs (ancB' pr) (l.map λi=>kcls i.k) 0 l)) else .no:=by unfold fdreg; rw [hq]
  rw [hfd] at hx
  cases hb:drawB' (ancB' pr) pr l with
  | false=>rw [hb] at hx; exact absurd (show FX.no = .ok e t' h' from hx) (by intro q; cases q)
  | true =>
   rw [hb] at hx
   cases hqu:quiet l with
   | true =>
    rw [hqu] at hx; exact quiet_ok hm hi hqu hb hf hr (show fIs F okf (fis l) t h = .ok e t' h' from hx)
   | false =>
    rw [hqu] at hx
    cases hch:chainB (ancB' pr) l with
    | true =>
     rw [hch] at hx; exact sreg_ok hF hok hm hi hb hch hf hr (show fA F okf lp (.sreg (fss (ancB' pr) l 0 l)) t h = .ok e t' h' from hx)
    | false =>
    rw [hch] at hx
    cases hbd:badD (ancB' pr) (l.map λi=>kcls i.k) l.length with
    | true=>rw [hbd] at hx; exact absurd (show FX.no = .ok e t' h' from hx) (by intro q; cases q)
    | false =>
     rw [hbd] at hx; exact dreg_ok hF hok hm hi hb hbd hf hr hx
end
end
noncomputable section
section
variable {P:Program} {F:FC'} {okf:Nat->Bool} {hint:Nat->Option Md} {nb:Nat}
theorem getD_mapL {α β:Type} {f:List α->List β} (hf:f [] = []):∀ (ws:List (List α)) (i:Nat),(ws.map f).getD i [] = f (ws.getD i [])
 | [],i=>by simp [hf]
 | a :: ws,0=>rfl
 | a :: ws,i + 1=>by
  have:=getD_mapL hf ws i
  simpa using this
theorem kills_map {pr ws:List (List Nat)} {n j:Nat} (f:Nat->Nat):killsOf pr (ws.map (List.map f)) n j = (killsOf pr ws n j).map f:=by
 simp only [killsOf,List.map_flatMap]
 congr 1
 funext i
 split
 ·rfl
 ·exact getD_mapL rfl ws i
theorem k_mpp_ok {h h':Hp} {H:List ABlk} {v k:FV} {kt:KT} {p:Pth} (hr:HpR h H) (hf:fits kt k = true) (e:k_mpp kt p k h = .ok v h') :
 ∃ (ck ck1 c:Nat) (kv:Value) (es es1 es2:List (Value × AV × Nat)) (x:Int) (xs:Es),keyOf (toA k) = some kv/\keyFits kt kv = true/\H[num p]? = some (.map kt ck es) /\
  ((mapGet es kv = some (.d (.v (.int .i64 x)),c)/\ck1 = ck/\es1 = es)\/(mapGet es kv = none/\AV.d (.v (.int .i64 x)) = .d (.v (.int .i64 0))/\c = ck/\ck1 = ck + 1/\es1 = es ++ [(kv,.d (.v (.int .i64 0)),ck)])) /\
  mapSt es1 c (.d (.v (.int .i64 (IntKind.i64.wrap (x + 1))))) = some es2/\v = .tup [.i .i64 x,.i .i64 (IntKind.i64.wrap (x + 1)),.i .i64 c]/\EsR xs es2/\h' = setB h p (.m kt ck1 xs):=by
 obtain ⟨h2,kv,h3,h4⟩:=fits_ok hf; obtain ⟨kt',ck,es,hp,e3⟩:=mapOfF_ok e; obtain ⟨hk,e4⟩:=bif_ok e3; obtain rfl:=ktB_ok hk; obtain ⟨l,hb,hl⟩:=hr.map hp; rcases mgetB_ok h2 h3 hl e4 with ⟨h5,e5⟩ | ⟨v0,c,h5,e5⟩
 ·obtain ⟨es',h6,e6⟩:=mput_ok h2 h3 hl e5
  simp only [mapPut,h5,toA] at h6 e6; obtain ⟨es2,l2,h7,h8,e7⟩:=mst_ok h6 e6
  cases e7
  exact ⟨ck,ck + 1,ck,kv,l,_,l2,0,es2,h3,h4,hb,.inr ⟨h5,rfl,rfl,rfl,rfl⟩,h7,rfl,h8,rfl⟩
 ·obtain ⟨k0,n,rfl,e6⟩:=onI_ok e5
  obtain ⟨hk0,e7⟩:=bif_ok e6; obtain rfl:k0 = .i64:=kN_inj (b:=.i64) hk0; obtain ⟨es2,l2,h7,h8,e8⟩:=mst_ok hl e7; rw [wr_eq,iadd_eq] at h7 e8
  cases e8
  exact ⟨ck,ck,c,kv,l,l,l2,n,es2,h3,h4,hb,.inl ⟨h5,rfl,rfl⟩,h7,rfl,h8,rfl⟩
theorem onMX_ok {kk:Pth->FX} {x:FV} {e:FE} {t':Fr} {h':Hp} (h:onMX kk x = .ok e t' h'):∃ p,x = .mp p/\kk p = .ok e t' h':=by
 cases x with
 | mp p=>exact ⟨p,rfl,h⟩
 | _=>exact absurd (show FX.no = .ok e t' h' from h) (by intro q; cases q)
theorem get_putO {s:List AV} {d:Nat} {v:AV} (h:d < s.length):get (setO s (some d) v) (.t d) = v:=by
 simp only [get,setO,gDd]; rw [List.getElem?_set_self h]; rfl
theorem keq_self {kt:KT} {kv:Value} (h:keyFits kt kv = true):keq kv kv = true:=(keq_iff h h).2 rfl
theorem mppOk (hm:P.follows .mixedOrders = true):MppOk P hint nb F okf:=by
 intro pr l kt d1 d2 d3 d4 m k t S h H e t' h' hq hi hf hr hx
 unfold mppOf at hq
 split at hq
 ·rename_i a1 ktx mx kx a2 b1 a3 kt2 m2 k2 a4 b3 m3 b4 b2 hl
  split at hq
  ·rename_i hc
   obtain ⟨⟨rfl,rfl,rfl,rfl,rfl,rfl,rfl,rfl⟩,hd,n12,n13,n14,n23,n24,n34,hdr,han,hkl,hpu⟩:=hc
   cases hq
   have hquiet:quiet (l.take (l.length - 5)) = true:=by
    refine List.all_eq_true.2 λi hi=>?_
    have:=List.all_eq_true.1 hpu i hi; obtain ⟨_,h2⟩:=Bool.and_eq_true_iff.1 this; rcases Bool.or_eq_true_iff.1 h2 with h | h
    ·rw [h]; rfl
    ·cases hk:i.k <;> rw [hk] at h <;> first | (cases h; done) | rfl
   obtain ⟨e1,s1,h1,x1,x2⟩:=onX3_ok hx; obtain ⟨rfl,pre,S1,c1,c2,c3,c4,c5⟩:=fIs_quiet (P:=P) (λi hi'=>hi i (List.mem_of_mem_take hi')) hquiet hf hr x1; obtain ⟨y1,x3⟩:=bifX x2; obtain ⟨p,y2,x4⟩:=onMX_ok x3; obtain ⟨v,h2,y3,x5⟩:=onR_ok x4; obtain ⟨ck,ck1,c,kv,es,es1,es2,x,xs,z1,z2,z3,z4,z5,rfl,z6,rfl⟩:=k_mpp_ok c1 y1 y3
   cases (show FX.ok .nrm _ _ = .ok e t' h' from x5)
   have hin:∀ i ∈ l.drop (l.length - 5),InsIn S.length i:=λi hi'=>hi i (List.mem_of_mem_drop hi')
   rw [hl] at hin; have s0:=(hin _ (List.mem_cons_self)).sl; have l1:d1 < S1.length:=by rw [c4]; exact (hin _ (List.mem_cons_self)).dst d1 rfl
   have l2:d2 < S1.length:=by rw [c4]; exact (hin _ (List.mem_cons_of_mem _ List.mem_cons_self)).dst d2 rfl
   have l3:d3 < S1.length:=by rw [c4]; exact (hin _ (List.mem_cons_of_mem _ (List.mem_cons_of_mem _ List.mem_cons_self))).dst d3 rfl
   have l4:d4 < S1.length:=by rw [c4]; exact (hin _ (List.mem_cons_of_mem _ (List.mem_cons_of_mem _ (List.mem_cons_of_mem _ List.mem_cons_self)))).dst d4 rfl
   have lm:m < S1.length:=by rw [c4]; exact s0 m (by simp [Ins.sl,K.sl,Opd.sl])
   have lk:k < S1.length:=by rw [c4]; exact s0 k (by simp [Ins.sl,K.sl,Opd.sl])
   have hgm:get S1 (.t m) = .mp (num p):=by
    have:=c3.at' m lm; rw [show slot m s1 = .mp p from y2] at this; exact this
   have hgk:keyOf (get S1 (.t k)) = some kv:=by
    rw [show get S1 (.t k) = toA (slot k s1) from c3.at' k lk]; exact z1
   have hnd:H[num p]? ≠ some .dead:=by rw [z3]; exact λh=>by cases h
   have hU:(List.range l.length).map (killsOf pr (List.replicate (l.length - 5) [] ++ [[],[],[num p],[],[num p]]) l.length) = List.replicate (l.length - 5) [] ++ [[num p],[num p],[],[],[]]:=by
    have:=congrArg (List.map (List.map λ_=>num p)) hkl; rw [List.map_map] at this; rw [show (List.replicate (l.length - 5) [] ++ [[],[],[num p],[],[num p]]:List (List Nat)) = (List.replicate (l.length - 5) [] ++ [[],[],[0],[],[0]]).map (List.map λ_=>num p) by simp]; rw [show (List.replicate (l.length - 5) [] ++ [[num p],[num p],[],[],[]]:List (List Nat)) = (List.replicate (l.length - 5) [] ++ [[0],[0],[],[],[]]).map (List.map λ_=>num p) by simp,<- this]; refine List.map_congr_left λj _=>?_
    rw [kills_map]; rfl
   have ll:∀ (S:List AV) (d:Nat) (a:AV),(setO S (some d) a).length = S.length:=λS d a=>setO_len S (some d) a
   refine ⟨[num p] ++ pre,_,_,c1.set (p:=p) (x:=.m kt ck1 xs) (k:=.map kt ck1 es2) ⟨es2,rfl,z6⟩ (List.getElem?_eq_some_iff.1 z3).1,c2.trans (.set _ _ p _ _ z3 (λh=>by cases h)),(((c3.set (Nat.lt_of_lt_of_le l1 c3.len) (.i .i64 x)).set (Nat.lt_of_lt_of_le l2 c3.len) (.i .i64 (IntKind.i64.wrap (x + 1)))).set (Nat.lt_of_lt_of_le l3 c3.len) (.tup [.i .i64 x,.i .i64 c])).set (Nat.lt_of_lt_of_le l4 c3.len) (.i .i64 c),by rw [ll,ll,ll,ll,c4],λQ hQ=>?_⟩; refine W.dregM (l.length - 5) (num p) d1 d2 d3 d4 m k kt (.d (.v (.int .i64 0))) (.d (.v (.int .i64 x))) (.d (.v (.int .i64 (IntKind.i64.wrap (x + 1))))) (.d (.v (.int .i64 1))) ck ck1 c kv es es1 es2 hl hm hdr hU han hd z3 z2 (keq_self z2) z4 rfl z5 rfl (c5 _ ⟨rfl,?_⟩); exact ⟨hgm,hgk,get_putO l1,get_putO (by rw [ll,ll]; exact l3),get_putO (by rw [ll,ll,ll]; exact l4),by rw [get_setO_ne n24,get_setO_ne n23]; exact get_putO (by rw [ll]; exact l2),hQ⟩
  ·cases hq
 ·cases hq
theorem ev_ok {X:FC'->FC'} {E:Nat->FF} (hX:∀ F,FOk P F->FOk P (X F)) (hE:EOk P E) (hok:∀ f,okf f = true->callOk P f = true) (hm:P.follows .mixedOrders = true) (lp n:Nat):FOk P (evFF X E okf lp n):=
 evFF_ok hX hE hok (λ_ _ _ hF=>regOk hF hok hm (mppOk hm)) lp n
end
end
noncomputable section
def codeP (P:Program) (f:Nat):FF:=match P.funcs[f]? with
 | none=>.no
 | some fn=>match fn.body.bind (comp P λ_=>some .hp),resC P fn with
  | some ac,some rs=>bif Nat.ble fn.ntmps 512 && (okA fn.ntmps ac && rs.all (okR fn.ntmps)) then .ok (fc ac) (frc rs) else .no
  | _,_=>.no
theorem codeP_ok (P:Program):EOk P (codeP P):=by
 intro f c rs h
 unfold codeP at h
 split at h
 ·cases h
 ·rename_i fn hf
  split at h
  ·rename_i ac rc h1 h2
   cases hb:(Nat.ble fn.ntmps 512 && (okA fn.ntmps ac && rc.all (okR fn.ntmps))) with
   | false=>rw [hb] at h; cases h
   | true =>
    rw [hb] at h; obtain ⟨b1,b2⟩:=Bool.and_eq_true_iff.1 hb; obtain ⟨b2,b3⟩:=Bool.and_eq_true_iff.1 b2
    cases h
    exact ⟨fn,ac,rc,_,hf,h1,h2,rfl,rfl,b2,b3,Nat.le_of_ble_eq_true b1⟩
  ·cases h
theorem EOk.of {P:Program} {E E':Nat->FF} (h:EOk P E) (h':∀ f c rs,E' f = .ok c rs->E f = .ok c rs):EOk P E':=λf c rs e=>h f c rs (h' f c rs e)
theorem FOk.or {P:Program} {F G:FC'} (hF:FOk P F) (hG:FOk P G) (g:Nat->Bool):FOk P (λf args h=>bif' (g f) (G f args h) (F f args h)):=by
 intro f args h H v h' hr e
 cases hq:g f with
 | true=>simp only [hq] at e; exact hG hr e
 | false=>simp only [hq] at e; exact hF hr e
theorem FOk.one {P:Program} {g:List FV->Hp->FR} {n:Nat} (hg:∀ {args:List FV} {h:Hp} {H:List ABlk} {v:FV} {h':Hp},HpR h H->g args h = .ok v h'->∃ pre H',HpR h' H'/\Fra pre h h' H H'/\ACalls P n (toAs args) H λv' H''=>v' = toA v/\H'' = H')
 {F:FC'} (hF:FOk P F):FOk P (λf args h=>bif' (Nat.beq f n) (g args h) (F f args h)):=by
 intro f args h H v h' hr e
 cases hq:Nat.beq f n with
 | true =>
  simp only [hq] at e; have:=Nat.eq_of_beq_eq_true hq; subst this; exact hg hr e
 | false=>simp only [hq] at e; exact hF hr e
end
noncomputable section
theorem Wk.killed {nb:Nat} {s:List AV} {H:List ABlk} (U:List Nat):Wk nb s H s (kill U H):=λa σ w hr hs=>by
 have hin:∀ {b:Nat} {k:ABlk},(kill U H)[b]? = some k->k ≠ .dead->H[b]? = some k:=λ{b k} h hk=>by
  rw [kill_get] at h
  split at h
  ·cases h; exact absurd rfl hk
  ·exact h
 have hl:∀ {k:ABlk},k.live = true->k ≠ .dead:=λh e=>by subst e; cases h
 refine ⟨σ,⟨λ_ _ h=>h,λ_ _ _ _ h=>h,rfl,rfl,rfl,Nat.le_refl _,λ_ _ _=>rfl,?_,λ_ h=>absurd rfl h,λb _ hb=>⟨?_,λ_=>rfl⟩,rfl⟩,⟨hr.mem,λb k hb=>?_,λb n h=>hr.fresh b n (by rw [kill_length] at h; exact h),λb b' k k' v v' g h h' h1 h2=>hr.inj b b' k k' v v' g (hin h (hl h1)) (hin h' (hl h2)) h1 h2⟩,hs⟩
 ·rintro k ⟨b,blk,v,hb,h1,h2,h3⟩
  exact .inl ⟨b,blk,v,hin hb (hl h1),h1,h2,h3⟩
 ·rw [kill_get]; split
  ·rfl
  ·exact hb
 ·by_cases hk:k = .dead
  ·subst hk; trivial
  ·exact hr.blk b k (hin hb hk)
theorem ExtN.setD {nb:Nat} {σ σ':Sg} {H H':List ABlk} {w w':World} {D:List Deferred} (h:ExtN nb (σ.setD D) H w σ' H' w'):ExtN nb σ H w (σ'.setD σ.D) H' w':=
 ⟨h.M,h.φ,h.os,h.tape,h.output,h.size,h.frame,h.foot,h.new,h.dead,rfl⟩
section
variable {P:Program} {hint:Nat->Option Md}
structure DefR (P:Program) (r:Code) (g:FuncId) (d:Nat) (caps:List Operand):Prop where
 run:∀ (a:Act) (w:World) (Q:Exit->Act->World->Prop),d < a.tmps.size->(∀ vs:List Value,vs = caps.map a.eval->Q .normal { tmps:=a.tmps.setIfInBounds d (.func (.func g) #[] vs.toArray),defers:={ target:=.fn (.func g) vs.toArray,args:=#[] } :: a.defers } w)->r.wp P Q a w
theorem ACalls.enterD {f g:FuncId} {fn:Func} {c0 r c1:Code} {ac0 ac1:AC} {rs:List RC} {d:Nat} {caps:List Operand} {args:List AV} {H:List ABlk} {R:AV->List ABlk->Prop} (hf:P.funcs[f]? = some fn) (hb:fn.body = some (.seq c0 (.seq r c1)))
 (h0:comp P hint c0 = some ac0) (h1:comp P hint c1 = some ac1) (hr:DefR P r g d caps) (hrs:resC P fn = some rs) (hd:d < fn.ntmps)
 (hid:∀ (as:Array Value) (w:World),as.size = caps.length->CallsD P g as .returning w λe u' w'=>e = .returned (.tuple #[])/\u' = .returning/\w' = w)
 (hin:∀ (as:Array Value) (w:World),(invoke (.fn (.func g) as) #[]).run P w = .ok (.enter g as) w)
 (hw:cl H->W P hint H.length ac0 (args ++ List.replicate (fn.ntmps - args.length) .any) H λe s' H'=>e = .normal/\d < s'.length/\W P hint H.length ac1 (setO s' (some d) .any) H' (retW rs H.length R)):ACalls P f args H R:=by
 refine ACalls.of0 λσ w vs hD h hv=>calls_of_wp_defers hf hb ?_
 have hs:SS σ (args ++ List.replicate (fn.ntmps - args.length) .any) { tmps:=vs.toArray ++ Array.replicate (fn.ntmps - vs.toArray.size) undef,defers:=[] }:=by
  refine ⟨hD.symm,?_⟩; have:=hv.append (VRs.replicate (σ:=σ) (fn.ntmps - args.length) (List.replicate (fn.ntmps - args.length) undef) (by simp))
  simpa [hv.1] using this
 refine wp_seq (wp_mono (hw h.cl c0 h0 σ _ w h hs) λe a1 w1 k=>?_); obtain ⟨σ1,s1,H1,x1,x2,x3,rfl,hds,x4⟩:=k
 show (Code.seq r c1).wp P _ a1 w1
 refine wp_seq ?_; refine hr.run a1 w1 _ (by have:=x3.tmps.1; simp at this; omega) λus hus=>?_
 show c1.wp P _ _ w1
 obtain ⟨D,hDD⟩:∃ D:List Deferred,D = { target:=.fn (.func g) us.toArray,args:=#[] } :: a1.defers:=⟨_,rfl⟩; have hs2:SS (σ1.setD D) (setO s1 (some d) .any) { tmps:=a1.tmps.setIfInBounds d (.func (.func g) #[] us.toArray),defers:=D }:=by
  have:=((⟨x3.defers,x3.tmps⟩:SS σ1 s1 a1).put (some d) (x:=.any) (v:=.func (.func g) #[] us.toArray) .any); exact ⟨rfl,(by have:=this.tmps; simpa [Act.put] using this.mono0 (σ1.setD_le0 D))⟩
 rw [<- hDD]; refine wp_mono (x4 c1 h1 (σ1.setD D) _ w1 (x2.setD D) hs2) λe a2 w2 k=>?_
 obtain ⟨σ2,s2,H2,y1,y2,y3,y4⟩:=k; have fin:(∃ v,resA rs s2 H2 = some v/\∃ v0 H0,Wk H.length [v] H2 [v0] H0/\R v0 H0)->Leaves P fn a2.tmps (λe w'=>∃ σ' H' v u,e = .returned u/\Ext σ H w σ' H' w'/\HR σ' H' w'/\VR σ' v u/\R v H') a2.defers .returning w2:=by
  rintro ⟨v,e1,v0,H0,hk,hR⟩; have hdef:a2.defers = [{ target:=.fn (.func g) us.toArray,args:=#[] }]:=by
   rw [y3.defers,y1.D]
   show D = _
   rw [hDD,x3.defers,x1.D,hD]
  rw [hdef]; refine leaves_cons (f:=g) (args:=us.toArray) (by simp) (hin _ _) ((hid us.toArray w2 (by rw [hus]; simp)).mono ?_); rintro e u' w'' ⟨rfl,rfl,rfl⟩
  show Leaves P fn a2.tmps _ [] (settle .returning) w''
  obtain ⟨u,hr',hvr⟩:=resA_sound (P:=P) hrs e1 y3 y2; obtain ⟨σ3,z1,z2,z3⟩:=hk.sound (a:={ tmps:=#[u],defers:=σ2.D }) y2 ⟨rfl,.cons hvr .nil⟩; have hx:ExtN H.length σ H w (σ3.setD σ1.D) H0 w'':=x1.trans (y1.trans z1).setD; exact ⟨u,hr',σ3.setD σ1.D,H0,v0,u,rfl,hx.full h,z2.setD _,(z3.tmps.2 0 v0 u rfl rfl).mono0 (σ3.setD_le0 _),hR⟩
 cases e with
 | normal=>exact fin y4
 | ret=>exact fin y4
 | _=>exact y4.elim
def runD (F:FC') (okf:Nat->Bool) (lp:Nat) (c0:FC) (d:Nat) (k1:Fr->Hp->FX) (rs:FRs) (args:List FV) (h:Hp):FR:=
 bif' (Nat.ble (lenL args 0) 512) (FX.rec (motive:=λ_=>FR) .no (λe s h=>FE.rec (motive:=λ_=>FR)
  (FX.rec (motive:=λ_=>FR) .no (λe s h=>FE.rec (motive:=λ_=>FR) (resF rs s h λl=>.ok (resV l) h) (resF rs s h λl=>.ok (resV l) h) (λ_=>.no) e) (k1 (ap (λf=>f .any s) (sls d)) h))
  .no (λ_=>.no) e) (fA F okf lp c0 (mkT args) h)) .no
theorem runD_ok {F:FC'} {okf:Nat->Bool} {lp:Nat} (hF:FOk P F) (hok:∀ f,okf f = true->callOk P f = true) (hD:∀ nb,RegOk P hint nb F okf) {k1:Fr->Hp->FX} {f g:FuncId} {fn:Func} {c0 r c1:Code} {ac0 ac1:AC} {rs:List RC} {d:Nat} {caps:List Operand}
 (hf:P.funcs[f]? = some fn) (hb:fn.body = some (.seq c0 (.seq r c1))) (h0:comp P hint c0 = some ac0) (h1:comp P hint c1 = some ac1) (hr:DefR P r g d caps) (hrs:resC P fn = some rs) (hd:d < fn.ntmps)
 (hid:∀ (as:Array Value) (w:World),as.size = caps.length->CallsD P g as .returning w λe u' w'=>e = .returned (.tuple #[])/\u' = .returning/\w' = w)
 (hin:∀ (as:Array Value) (w:World),(invoke (.fn (.func g) as) #[]).run P w = .ok (.enter g as) w)
 (ho:okA fn.ntmps ac0 = true) (hro:rs.all (okR fn.ntmps) = true) (hn:fn.ntmps<=512)
 (hk:∀ {nb:Nat} {t:Fr} {S:List AV} {h:Hp} {H:List ABlk} {e:FE} {t':Fr} {h':Hp},fn.ntmps<=S.length->FrR t S->HpR h H->k1 t h = .ok e t' h'->ResC P hint nb ac1 S h H e t' h')
 {args:List FV} {h:Hp} {H:List ABlk} {v:FV} {h':Hp} (hh:HpR h H) (e:runD F okf lp (fc ac0) d k1 (frc rs) args h = .ok v h') :
 ∃ pre H',HpR h' H'/\Fra pre h h' H H'/\ACalls P f (toAs args) H λv' H''=>v' = toA v/\H'' = H':=by
 obtain ⟨ha,e⟩:=bif_ok e; have ha:args.length<=512:=by
  have:=Nat.le_of_ble_eq_true ha; rw [lenL_eq] at this; omega
 have hlen:fn.ntmps<=(toAs args ++ List.replicate (fn.ntmps - args.length) AV.any).length:=by
  rw [List.length_append,List.length_replicate,toAs_length]; omega
 cases hx:fA F okf lp (fc ac0) (mkT args) h with
 | no=>simp only [hx] at e; cases e
 | ok ex t1 hp1 =>
  simp only [hx] at e; obtain ⟨pre,S1,H1,a,b,c,dd,w⟩:=fA_ok (P:=P) (hint:=hint) (nb:=H.length) hF hok (hD H.length) ho hlen (mkT_ok (k:=fn.ntmps) ha hn) hh hx
  cases ex with
  | ret=>cases e
  | ext id=>cases e
  | nrm =>
   have hd1:d < S1.length:=by rw [dd]; omega
   have c2:FrR (slotS d .any t1) (setO S1 (some d) .any):=c.set (by omega) .any; have hl2:fn.ntmps<=(setO S1 (some d) AV.any).length:=by rw [setO_length,dd]; exact hlen
   have e:FX.rec (motive:=λ_=>FR) .no (λe s h=>FE.rec (motive:=λ_=>FR) (resF (frc rs) s h λl=>.ok (resV l) h) (resF (frc rs) s h λl=>.ok (resV l) h) (λ_=>.no) e) (k1 (slotS d .any t1) hp1) = .ok v h':=e
   cases hx2:k1 (slotS d .any t1) hp1 with
   | no=>rw [hx2] at e; cases e
   | ok e2 t2 hp2 =>
    rw [hx2] at e; obtain ⟨pre',S2,H2,a',b',c',dd',w'⟩:=hk (nb:=H.length) hl2 c2 a hx2; have hR:rs.all (okR S2.length) = true:=by
     refine List.all_eq_true.2 λr hr=>?_
     have:=List.all_eq_true.1 hro r hr; have hle:fn.ntmps<=S2.length:=by rw [dd']; exact hl2
     cases r with
     | t m=>exact blt_iff.2 (Nat.lt_of_lt_of_le (blt_iff.1 this) hle)
     | c m k g =>
      obtain ⟨q1,q2⟩:=Bool.and_eq_true_iff.1 (show (Nat.blt m fn.ntmps && (g || k == 1)) = true from this); exact Bool.and_eq_true_iff.2 ⟨blt_iff.2 (Nat.lt_of_lt_of_le (blt_iff.1 q1) hle),q2⟩
    have fin:(resF (frc rs) t2 hp2 λl=>FR.ok (resV l) hp2) = .ok v h'->h' = hp2/\resA rs S2 H2 = some (toA v):=λer=>by
     obtain ⟨l,l1,l2,l3⟩:=resF_ok c' a' hR er
     cases l3
     exact ⟨rfl,resV_ok l1 l2⟩
    have go:∀ ex:FE,(toE ex = .normal\/toE ex = .ret)->e2 = ex->(resF (frc rs) t2 hp2 λl=>FR.ok (resV l) hp2) = .ok v h' ->
     ∃ pre H',HpR h' H'/\Fra pre h h' H H'/\ACalls P f (toAs args) H λv' H''=>v' = toA v/\H'' = H':=by
     rintro ex hex rfl er; obtain ⟨rfl,q⟩:=fin er; refine ⟨pre' ++ pre,H2,a',b.trans b',ACalls.enterD hf hb h0 h1 hr hrs hd hid hin λ_=>?_⟩; rw [toAs_length]; refine w _ ⟨rfl,hd1,w' _ ?_⟩; rcases hex with hex | hex <;> rw [hex] <;> exact ⟨toA v,q,toA v,H2,Wk.refl,rfl,rfl⟩
    cases e2 with
    | ext id=>cases e
    | nrm=>exact go .nrm (.inl rfl) rfl e
    | ret=>exact go .ret (.inr rfl) rfl e
end
end
end Go.Proofs.YtofpekbidngnfaaGreatDoor
