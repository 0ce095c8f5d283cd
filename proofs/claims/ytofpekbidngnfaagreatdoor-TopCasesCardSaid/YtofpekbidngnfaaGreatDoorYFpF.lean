/-
  One's own library, part 31: the quick evaluator is right: functions.
-/
import Derived.Test.YtofpekbidngnfaaGreatDoorYFp9
import Derived.Test.YtofpekbidngnfaaGreatDoorYSet
set_option linter.constructorNameAsVariable false
set_option linter.unusedSectionVars false
set_option linter.unusedSimpArgs false
set_option linter.unusedVariables false
namespace Go.Proofs.YtofpekbidngnfaaGreatDoor
open Go.RowKit
noncomputable section
theorem slot_fE (m:Nat):slot m fE = .any:=by
 rw [slot_eq]
 unfold fE
 have q:∀ {α:Type} (d:D8) (a:α),r8get d (all8 a) = a:=λd a=>by cases d <;> rfl
 rw [q,q,q]
def mkTn (args:List FV) (n:Nat) (t:Fr):Fr:=List.rec (motive:=λ_=>Nat->Fr->Fr) (λ_ t=>t) (λa _ ih n t=>ih (Nat.succ n) (ap (λf=>f a t) (sls n))) args n t
theorem mkTn_slot:∀ (args:List FV) (n:Nat) (t:Fr) (m:Nat),n + args.length<=512->m < 512->slot m (mkTn args n t) = if m < n then slot m t else if m < n + args.length then args.getD (m - n) .any else slot m t
 | [],n,t,m,_,_=>by
  show slot m t = _
  by_cases h:m < n <;> simp [h]
 | a :: args,n,t,m,hl,hm=>by
  have hl':n + 1 + args.length<=512:=by simp only [List.length_cons] at hl; omega
  rw [show mkTn (a :: args) n t = mkTn args (n + 1) (slotS n a t) from rfl,mkTn_slot args (n + 1) _ m hl' hm]; simp only [List.length_cons]; rcases Nat.lt_trichotomy m n with h | h | h
  ·rw [if_pos (show m < n + 1 by omega),if_pos h,slot_ne (show n < 512 by omega) hm (by omega)]
  ·subst h
   rw [if_pos (show m < m + 1 by omega),if_neg (show ¬ m < m by omega),if_pos (show m < m + (args.length + 1) by omega),slot_set,Nat.sub_self]; rfl
  ·rw [if_neg (show ¬ m < n + 1 by omega),if_neg (show ¬ m < n by omega)]
   by_cases h2:m < n + 1 + args.length
   ·rw [if_pos h2,if_pos (show m < n + (args.length + 1) by omega)]
    rw [show m - n = (m - (n + 1)) + 1 by omega]; rfl
   ·rw [if_neg h2,if_neg (show ¬ m < n + (args.length + 1) by omega),slot_ne (show n < 512 by omega) hm (by omega)]
theorem mkT_ok {args:List FV} {k:Nat} (h1:args.length<=512) (h2:k<=512):FrR (mkT args) (toAs args ++ List.replicate (k - args.length) .any):=by
 have hlen:(toAs args ++ List.replicate (k - args.length) AV.any).length<=512:=by
  rw [List.length_append,List.length_replicate,toAs_length]; omega
 refine ⟨hlen,λm hm=>?_⟩; have hm':m < 512:=Nat.lt_of_lt_of_le hm hlen; rw [show mkT args = mkTn args 0 fE from rfl,mkTn_slot args 0 fE m (by omega) hm',if_neg (Nat.not_lt_zero m),slot_fE]; rw [toAs_eq,gDd]
 by_cases h:m < args.length
 ·rw [if_pos (show m < 0 + args.length by omega),List.getElem?_append_left (by simpa using h),List.getElem?_map,Nat.sub_zero,gDd,gEe h]; rfl
 ·rw [if_neg (show ¬ m < 0 + args.length by omega),List.getElem?_append_right (by simpa using Nat.le_of_not_lt h),List.getElem?_replicate]
  split <;> rfl
section
variable {t:Fr} {S:List AV} {h h':Hp} {H:List ABlk} {v:FV}
theorem resF_ok (hf:FrR t S) (hr:HpR h H):∀ {rs:List RC} {k:List FV->FR} {v:FV} {h':Hp},rs.all (okR S.length) = true->resF (frc rs) t h k = .ok v h'->∃ l,resL S H rs = some (toAs l)/\l.length = rs.length/\k l = .ok v h'
 | [],k,v,h',_,e=>⟨[],rfl,rfl,e⟩
 | .t n :: rs,k,v,h',ho,e=>by
  obtain ⟨h1,h2⟩:=Bool.and_eq_true_iff.1 (show (okR S.length (.t n) && rs.all (okR S.length)) = true from ho); obtain ⟨l,e1,e2,e3⟩:=resF_ok hf hr (k:=λr=>k (slot n t :: r)) h2 e; refine ⟨slot n t :: l,?_,by simp [e2],e3⟩; simp only [resL,res1,e1,hf.at' n (blt_iff.1 h1),toAs]
 | .c a m g :: rs,k,v,h',ho,e=>by
  obtain ⟨h1,h2⟩:=Bool.and_eq_true_iff.1 (show (okR S.length (.c a m g) && rs.all (okR S.length)) = true from ho); obtain ⟨h3,h4⟩:=Bool.and_eq_true_iff.1 (show (Nat.blt a S.length && (g || m == 1)) = true from h1); have ha:get S (.t a) = toA (slot a t):=hf.at' a (blt_iff.1 h3); have e:FR.rec (motive:=λ_=>FR) .no (λv _=>resF (frc rs) t h λr=>k (v :: r)) (bif' g (k_ldn m (slot a t) h) (k_ld (slot a t) h)) = .ok v h':=e; have q:∃ (u:FV) (h1:Hp),evK (.ld (.t a) m g) S H = some (toA u,H)/\(resF (frc rs) t h λr=>k (u :: r)) = .ok v h':=by
   cases g with
   | true =>
    have e:FR.rec (motive:=λ_=>FR) .no (λv _=>resF (frc rs) t h λr=>k (v :: r)) (k_ldn m (slot a t) h) = .ok v h':=e
    cases hq:k_ldn m (slot a t) h with
    | no=>rw [hq] at e; cases e
    | ok u h1 =>
     rw [hq] at e; obtain ⟨pre,H',a1,b1,c1⟩:=o_ldn (rd:=(nmOf (slot a t)).ns) ha hr (List.Subset.refl _) hq; have c2:evK (.ld (.t a) m true) S H = some (toA u,H'):=c1 [] (λb hb=>absurd hb List.not_mem_nil); refine ⟨u,h1,?_,e⟩; have:H' = H:=by
      simp only [evK] at c2
      repeat' split at c2
      all_goals first | (cases c2; done) | (injection c2 with c2; injection c2 with _ c2; exact c2.symm)
     rw [c2,this]
   | false =>
    have hm:m = 1:=by simpa using h4
    subst hm; have e:FR.rec (motive:=λ_=>FR) .no (λv _=>resF (frc rs) t h λr=>k (v :: r)) (k_ld (slot a t) h) = .ok v h':=e
    cases hq:k_ld (slot a t) h with
    | no=>rw [hq] at e; cases e
    | ok u h1 =>
     rw [hq] at e; obtain ⟨pre,H',a1,b1,c1⟩:=o_ld (rd:=(nmOf (slot a t)).ns) ha hr (List.Subset.refl _) hq; have c2:evK (.ld (.t a) 1 false) S H = some (toA u,H'):=c1 [] (λb hb=>absurd hb List.not_mem_nil); refine ⟨u,h1,?_,e⟩; have:H' = H:=by
      simp only [evK] at c2
      repeat' split at c2
      all_goals first | (cases c2; done) | (injection c2 with c2; injection c2 with _ c2; exact c2.symm)
     rw [c2,this]
  obtain ⟨u,h1',e1,e2⟩:=q; obtain ⟨l,f1,f2,f3⟩:=resF_ok hf hr (k:=λr=>k (u :: r)) h2 e2; refine ⟨u :: l,?_,by simp [f2],f3⟩; have e1':res1 S H (.c a m g) = some (toA u):=by
   simp only [evK,get] at e1; simp only [res1]
   cases hl:loadA H (S.getD a .any) m with
   | none=>rw [hl] at e1; cases e1
   | some cs =>
    rw [hl] at e1; simp only at e1 ⊢
    cases ho2:outA g cs with
    | none=>rw [ho2] at e1; cases e1
    | some w=>rw [ho2] at e1; injection e1 with e1; injection e1 with e1 _; rw [e1]
  simp only [resL,e1',f1,toAs]
theorem resV_ok {rs:List RC} {l:List FV} (h1:resL S H rs = some (toAs l)) (h2:l.length = rs.length):resA rs S H = some (toA (resV l)):=by
 match rs,l,h1,h2 with
 | [],[],_,_=>rfl
 | [r],[a],h1,_ =>
  simp only [resL] at h1; simp only [resA]
  cases hq:res1 S H r with
  | none=>rw [hq] at h1; cases h1
  | some w =>
   rw [hq] at h1
   injection h1 with h1
   injection h1 with h1 _
   rw [h1]; rfl
 | r :: r' :: rs,a :: b :: l,h1,_ =>
  simp only [resA,h1]; rfl
end
def EOk (P:Program) (E:Nat->FF):Prop:=
 ∀ f c rs,E f = .ok c rs->∃ fn ac rc hint,P.funcs[f]? = some fn/\fn.body.bind (comp P hint) = some ac/\resC P fn = some rc/\c = fc ac/\rs = frc rc/\okA fn.ntmps ac = true/\rc.all (okR fn.ntmps) = true/\fn.ntmps<=512
theorem evFF_ok {P:Program} {X:FC'->FC'} {E:Nat->FF} {okf:Nat->Bool} (hX:∀ F,FOk P F->FOk P (X F)) (hE:EOk P E) (hok:∀ f,okf f = true->callOk P f = true)
 (hD:∀ hint nb F,FOk P F->RegOk P hint nb F okf) (lp:Nat):∀ n,FOk P (evFF X E okf lp n)
 | 0=>λf args h H v h' _ e=>absurd (show FR.no = .ok v h' from e) (by intro q; cases q)
 | n + 1=>by
  have ih:=evFF_ok hX hE hok hD lp n; refine hX (λf args h=>FF.rec (motive:=λ_=>FR) .no
   (λc rs=>bif' (Nat.ble (lenL args 0) 512) (FX.rec (motive:=λ_=>FR) .no (λe s h=>FE.rec (motive:=λ_=>FR) (resF rs s h λl=>.ok (resV l) h) (resF rs s h λl=>.ok (resV l) h) (λ_=>.no) e) (fA (evFF X E okf lp n) okf lp c (mkT args) h)) .no) (E f)) ?_
  intro f args h H v h' hr e
  cases hq:E f with
  | no=>simp only [hq] at e; cases e
  | ok c rs =>
   simp only [hq] at e; obtain ⟨fn,ac,rc,hint,e1,e2,e3,rfl,rfl,e4,e5,e6⟩:=hE f c rs hq; obtain ⟨ha,e⟩:=bif_ok e; have ha:args.length<=512:=by
    have:=Nat.le_of_ble_eq_true ha; rw [lenL_eq] at this; omega
   cases hx:fA (evFF X E okf lp n) okf lp (fc ac) (mkT args) h with
   | no=>simp only [hx] at e; cases e
   | ok ex t1 h1 =>
    simp only [hx] at e; have hlen:fn.ntmps<=(toAs args ++ List.replicate (fn.ntmps - args.length) AV.any).length:=by
     rw [List.length_append,List.length_replicate,toAs_length]; omega
    obtain ⟨pre,S',H',a,b,c,d,w⟩:=fA_ok (P:=P) (hint:=hint) (nb:=H.length) ih hok (hD hint H.length _ ih) e4 hlen (mkT_ok (k:=fn.ntmps) ha e6) hr hx; have hR:rc.all (okR S'.length) = true:=by
     refine List.all_eq_true.2 λr hr=>?_
     have:=List.all_eq_true.1 e5 r hr; have hle:fn.ntmps<=S'.length:=by rw [d]; exact hlen
     cases r with
     | t m=>exact blt_iff.2 (Nat.lt_of_lt_of_le (blt_iff.1 this) hle)
     | c m k g =>
      obtain ⟨q1,q2⟩:=Bool.and_eq_true_iff.1 (show (Nat.blt m fn.ntmps && (g || k == 1)) = true from this); exact Bool.and_eq_true_iff.2 ⟨blt_iff.2 (Nat.lt_of_lt_of_le (blt_iff.1 q1) hle),q2⟩
    have fin:(resF (frc rc) t1 h1 λl=>FR.ok (resV l) h1) = .ok v h'->(∀ Q:APost,Q (toE ex) S' H'->W P hint H.length ac (toAs args ++ List.replicate (fn.ntmps - args.length) AV.any) H Q) ->
     (∀ Φ:Prop,Φ->Φ)->h' = h1/\resA rc S' H' = some (toA v):=λer _ _=>by
     obtain ⟨l,l1,l2,l3⟩:=resF_ok c a hR er
     cases l3
     exact ⟨rfl,resV_ok l1 l2⟩
    cases ex with
    | ext id=>cases e
    | nrm =>
     obtain ⟨rfl,q⟩:=fin e w λ_ x=>x
     refine ⟨pre,H',a,b,ACalls.enter e1 e2 e3 λ_=>?_⟩; rw [toAs_length]; exact w _ ⟨toA v,q,toA v,H',Wk.refl,rfl,rfl⟩
    | ret =>
     obtain ⟨rfl,q⟩:=fin e w λ_ x=>x
     refine ⟨pre,H',a,b,ACalls.enter e1 e2 e3 λ_=>?_⟩; rw [toAs_length]; exact w _ ⟨toA v,q,toA v,H',Wk.refl,rfl,rfl⟩
end
noncomputable section
theorem quiet_same {k:K} {S:List AV} {H H':List ABlk} {a:AV} (hk:kcls k = 0\/kcls k = 1) (e:evK k S H = some (a,H')):H' = H:=by
 cases k <;> first
  | (rcases hk with hk | hk <;> cases hk; done)
  | (simp only [evK, Option.map_eq_some_iff] at e
     repeat' split at e
     all_goals first
      | (cases e; done)
      | (injection e with e; injection e with _ e; exact e.symm)
      | (obtain ⟨x,_,e⟩:=e; injection e with _ e; exact e.symm))
theorem foldB {acc:List Nat} (x:Nat):∀ (p:List Nat) (m:Nat),(p.foldl (λm i=>m ||| (1 <<< i ||| acc.getD i 0)) m).testBit x = true ↔ m.testBit x = true\/x ∈ p\/∃ k ∈ p,(acc.getD k 0).testBit x = true
 | [],m=>by simp
 | i :: p,m=>by
  rw [List.foldl_cons,foldB x p]; simp only [Nat.testBit_or,Bool.or_eq_true,Nat.one_shiftLeft,Nat.testBit_two_pow,decide_eq_true_iff,List.mem_cons,exists_eq_or_imp]
  constructor
  ·rintro ((h | h | h) | h | h)
   ·exact .inl h
   ·exact .inr (.inl (.inl h.symm))
   ·exact .inr (.inr (.inl h))
   ·exact .inr (.inl (.inr h))
   ·exact .inr (.inr (.inr h))
  ·rintro (h | (h | h) | h | h)
   ·exact .inl (.inl h)
   ·exact .inl (.inr (.inl h.symm))
   ·exact .inr (.inl h)
   ·exact .inl (.inr (.inr h))
   ·exact .inr (.inr h)
theorem ancB'_eq (pr:List (List Nat)):(ancB' pr).length = (anc pr).length/\∀ j x,((ancB' pr).getD j 0).testBit x = ((anc pr).getD j []).contains x:=by
 have go:∀ (l:List (List Nat)) (A:List Nat) (B:List (List Nat)),A.length = B.length->(∀ j x,(A.getD j 0).testBit x = (B.getD j []).contains x) ->
  (l.foldl (λacc p=>acc ++ [p.foldl (λm i=>m ||| (1 <<< i ||| acc.getD i 0)) 0]) A).length = (l.foldl (λacc p=>acc ++ [(p ++ p.flatMap λi=>acc.getD i []).eraseDups]) B).length /\
  ∀ j x,((l.foldl (λacc p=>acc ++ [p.foldl (λm i=>m ||| (1 <<< i ||| acc.getD i 0)) 0]) A).getD j 0).testBit x = ((l.foldl (λacc p=>acc ++ [(p ++ p.flatMap λi=>acc.getD i []).eraseDups]) B).getD j []).contains x:=by
  intro l
  induction l with
  | nil=>exact λA B h1 h2=>⟨h1,h2⟩
  | cons p l ih =>
   intro A B h1 h2
   rw [List.foldl_cons,List.foldl_cons]; refine ih _ _ (by simp [h1]) λj x=>?_
   rcases Nat.lt_trichotomy j A.length with hj | hj | hj
   ·have e1:∀ y,(A ++ [y]).getD j 0 = A.getD j 0:=λy=>by rw [gDd,List.getElem?_append_left hj,<- gDd]
    have e2:∀ y,(B ++ [y]).getD j [] = B.getD j []:=λy=>by rw [gDd,List.getElem?_append_left (by omega),<- gDd]
    rw [e1,e2]; exact h2 j x
   ·have e1:∀ y,(A ++ [y]).getD j 0 = y:=λy=>by rw [hj,gDd,List.getElem?_append_right (Nat.le_refl _)]; simp
    have e2:∀ y,(B ++ [y]).getD j [] = y:=λy=>by rw [hj,h1,gDd,List.getElem?_append_right (Nat.le_refl _)]; simp
    rw [e1,e2,Bool.eq_iff_iff,foldB]; simp only [Nat.zero_testBit,Bool.false_eq_true,false_or,List.contains_eq_mem,decide_eq_true_iff,List.mem_eraseDups,List.mem_append,List.mem_flatMap]; refine or_congr Iff.rfl ⟨?_,?_⟩
    ·rintro ⟨k,hk,hx⟩
     rw [h2,List.contains_eq_mem,decide_eq_true_iff] at hx; exact ⟨k,hk,hx⟩
    ·rintro ⟨k,hk,hx⟩
     refine ⟨k,hk,?_⟩; rw [h2,List.contains_eq_mem,decide_eq_true_iff]; exact hx
   ·have e1:∀ y,(A ++ [y]).getD j 0 = 0:=λy=>by rw [gDd,List.getElem?_eq_none (by simp; omega)]; rfl
    have e2:∀ y,(B ++ [y]).getD j [] = []:=λy=>by rw [gDd,List.getElem?_eq_none (by simp; omega)]; rfl
    rw [e1,e2]; simp
 exact go pr [] [] rfl λj x=>by simp
theorem drawB_eq' (pr:List (List Nat)) (l:List Ins):drawB' (ancB' pr) pr l = drawOk pr l:=by
 simp only [drawB',drawOk,(ancB'_eq pr).2]
 rfl
section
variable {P:Program} {F:FC'} {okf:Nat->Bool}
theorem PChain_one {i:Ins} {r:List Ins} {S:List AV} {H:List ABlk} {v:AV} {Kk:List AV->List ABlk->Prop} (hg:wanted S i.g = some true) (hc:isCall i.k = false)
 (h:evK i.k S H = some (v,H)) (hr:PChain P r (setO S i.dst v) H Kk):PChain P (i :: r) S H Kk:=by
 obtain ⟨d,k,g⟩:=i; simp only at hg h hc
 cases k <;> first | (cases hc; done) | (simp only [PChain,hg,h]; exact ⟨trivial,hr⟩)
theorem PChain_off {i:Ins} {r:List Ins} {S:List AV} {H:List ABlk} {Kk:List AV->List ABlk->Prop} (hg:wanted S i.g = some false)
 (h:PChain P r (setO S i.dst (.tup [])) H Kk):PChain P (i :: r) S H Kk:=by
 simp only [PChain,hg]; exact h
def ResQ (P:Program) (l:List Ins) (S:List AV) (h:Hp) (H:List ABlk) (e:FE) (t':Fr) (h':Hp):Prop:=
 e = .nrm/\∃ pre S',HpR h' H/\Fra pre h h' H H/\FrR t' S'/\S'.length = S.length/\∀ Kk:List AV->List ABlk->Prop,Kk S' H->PChain P l S H Kk
theorem qk_call {k:K} (h:qk k = true):isCall k = false:=by cases k <;> first | rfl | (cases h; done)
theorem qk_cls {k:K} (h:qk k = true):kcls k = 0\/kcls k = 1:=by
 rcases Bool.or_eq_true_iff.1 h with h | h
 ·exact .inl (beq_iff_eq.1 h)
 ·exact .inr (beq_iff_eq.1 h)
theorem ResQ.step {t:Fr} {S:List AV} {h h':Hp} {H:List ABlk} {v:FV} {i:Ins} {r:List Ins} (hf:FrR t S) (hi:InsIn S.length i) (hr:HpR h H) (hq:qk i.k = true) {e:FE} {t':Fr} {h1:Hp}
 (hw:wanted S i.g = some true) (he:evFK F okf (fk i.k) t h = .ok v h1) (ih:HpR h1 H->ResQ P r (setO S i.dst (toA v)) h1 H e t' h'):ResQ P (i :: r) S h H e t' h':=by
 obtain ⟨pre,H1,a,b,c⟩:=evFK_ok hf (λn hn=>hi.sl n (List.mem_append.2 (.inl hn))) (qk_call hq) hr he; have c:evK i.k S H = some (toA v,H1):=c [] (λb hb=>absurd hb List.not_mem_nil); have:=quiet_same (qk_cls hq) c; subst this; obtain ⟨q,pre',S',a',b',f',l',k'⟩:=ih a; exact ⟨q,pre' ++ pre,S',a',b.trans b',f',by rw [l',setO_len],λKk hK=>PChain_one hw (qk_call hq) c (k' Kk hK)⟩
theorem ResQ.off {t:Fr} {S:List AV} {h h':Hp} {H:List ABlk} {i:Ins} {r:List Ins} {e:FE} {t':Fr} (hw:wanted S i.g = some false) (ih:ResQ P r (setO S i.dst (.tup [])) h H e t' h'):ResQ P (i :: r) S h H e t' h':=by
 obtain ⟨q,pre',S',a',b',f',l',k'⟩:=ih; exact ⟨q,pre',S',a',b',f',by rw [l',setO_len],λKk hK=>PChain_off hw (k' Kk hK)⟩
theorem fIs_quiet:∀ {l:List Ins} {t:Fr} {S:List AV} {h:Hp} {H:List ABlk} {e:FE} {t':Fr} {h':Hp},
 (∀ i ∈ l,InsIn S.length i)->quiet l = true->FrR t S->HpR h H->fIs F okf (fis l) t h = .ok e t' h'->ResQ P l S h H e t' h'
 | [],t,S,h,H,e,t',h',_,_,hf,hr,hx=>by
  cases (show FX.ok .nrm t h = .ok e t' h' from hx)
  exact ⟨rfl,[],S,hr,.refl h H,hf,rfl,λKk hK=>by rw [PChain_nil]; exact hK⟩
 | i :: l,t,S,h,H,e,t',h',hi,hqq,hf,hr,hx=>by
  obtain ⟨hq,hql⟩:=Bool.and_eq_true_iff.1 (show (qk i.k && quiet l) = true from hqq); have hi0:=hi i List.mem_cons_self; have hil:∀ a:AV,∀ j ∈ l,InsIn (setO S i.dst a).length j:=λa j hj=>by rw [setO_len]; exact hi j (List.mem_cons_of_mem _ hj)
  obtain ⟨dst,k,g⟩:=i
  cases g with
  | some g =>
   obtain ⟨gi,gb⟩:=g; have hx:guard (.ok gi gb) t (onR (λv h=>fIs F okf (fis l) (putD (fd dst) v t) h) (evFK F okf (fk k) t h)) (fIs F okf (fis l) (putD (fd dst) (.tup []) t) h) = .ok e t' h':=hx; have hg:gi < S.length:=hi0.sl gi (List.mem_append.2 (.inr (by simp))); rcases guard_ok hf hg hx with ⟨hw,h1⟩ | ⟨hw,h1⟩
   ·obtain ⟨v,h2,e1,e2⟩:=onR_ok h1
    exact .step hf hi0 hr hq hw e1 λa=>fIs_quiet (hil _) hql (putD_ok hf hi0.dst v) a e2
   ·exact .off hw (t:=t) (fIs_quiet (hil _) hql (putD_ok hf hi0.dst (.tup [])) hr h1)
  | none =>
   cases dst with
   | none =>
    obtain ⟨v,h2,e1,e2⟩:=onR_ok (show onR (λ_ h=>fIs F okf (fis l) t h) (evFK F okf (fk k) t h) = .ok e t' h' from hx); exact .step (i:=⟨none,k,none⟩) (v:=v) hf hi0 hr hq rfl e1 λa=>fIs_quiet (hil (toA v)) hql (putD_ok hf hi0.dst v) a e2
   | some d =>
    have q:∃ v h2,evFK F okf (fk k) t h = .ok v h2/\fIs F okf (fis l) (putD (fd (some d)) v t) h2 = .ok e t' h':=by
     by_cases hk:∃ x,k = .mv x
     ·obtain ⟨x,rfl⟩:=hk
      cases x with
      | t n=>exact ⟨slot n t,h,rfl,hx⟩
      | c a=>exact ⟨fvA a,h,rfl,hx⟩
     ·have hx:fIs F okf (fi1 (some d) none k (fis l)) t h = .ok e t' h':=hx
      rw [fi1_c λx hxk=>hk ⟨x,hxk⟩] at hx; exact onR_ok (show onR (λv h=>fIs F okf (fis l) (putD (fd (some d)) v t) h) (evFK F okf (fk k) t h) = .ok e t' h' from hx)
    obtain ⟨v,h2,e1,e2⟩:=q; exact .step (i:=⟨some d,k,none⟩) (v:=v) hf hi0 hr hq rfl e1 λa=>fIs_quiet (hil (toA v)) hql (putD_ok hf hi0.dst v) a e2
theorem quiet_ok {hint:Nat->Option Md} {nb:Nat} (hm:P.follows .mixedOrders = true) {pr:List (List Nat)} {l:List Ins} {t:Fr} {S:List AV} {h:Hp} {H:List ABlk} {e:FE} {t':Fr} {h':Hp}
 (hi:∀ i ∈ l,InsIn S.length i) (hq:quiet l = true) (hb:drawB' (ancB' pr) pr l = true) (hf:FrR t S) (hr:HpR h H) (hx:fIs F okf (fis l) t h = .ok e t' h'):ResC P hint nb (.dreg pr l) S h H e t' h':=by
 obtain ⟨rfl,pre,S',a,b,c,d,w⟩:=fIs_quiet (P:=P) hi hq hf hr hx; exact ⟨pre,S',H,a,b,c,d,λQ hQ=>W.pchain hm (by rw [<- drawB_eq']; exact hb) (w _ hQ)⟩
end
end
noncomputable section
theorem bifB {a b:Bool} (h:bif' a b false = true):a = true/\b = true:=by cases a <;> first | (cases h; done) | exact ⟨rfl,h⟩
theorem pEq_iff {p q:Pth}:pEq p q = true ↔ num p = num q:=⟨λh=>Nat.eq_of_beq_eq_true h,λh=>by show Nat.beq (num p) (num q) = true; rw [h]; exact Nat.beq_refl _⟩
theorem inL_ok {p:Pth}:∀ {l:Lg},num p ∈ l.ns->inL p l = true
 | .nil,h=>absurd h List.not_mem_nil
 | .cons q r,h=>by
  show bif' (pEq p q) true (inL p r) = true
  by_cases hq:num p = num q
  ·rw [pEq_iff.2 hq]; rfl
  ·rcases List.mem_cons.1 h with h | h
   ·exact absurd h hq
   ·rw [inL_ok h]; cases pEq p q <;> rfl
theorem disL_ok {b:Lg}:∀ {a:Lg},disL a b = true->∀ x ∈ a.ns,x ∉ b.ns
 | .nil,_,x,h=>absurd h List.not_mem_nil
 | .cons p r,hd,x,h=>by
  have hd:bif' (inL p b) false (disL r b) = true:=hd
  cases hq:inL p b with
  | true=>rw [hq] at hd; cases hd
  | false =>
   rw [hq] at hd; rcases List.mem_cons.1 h with h | h
   ·subst h; exact λhx=>by rw [inL_ok hx] at hq; cases hq
   ·exact disL_ok hd x h
theorem outN_ok {n m:Nat}:∀ {a:Lg},outN n m a = true->∀ x ∈ a.ns,x < n\/m<=x
 | .nil,_,x,h=>absurd h List.not_mem_nil
 | .cons p r,hd,x,h=>by
  obtain ⟨h1,h2⟩:=bifB (show bif' (bif' (Nat.blt (num p) n) true (Nat.ble m (num p))) (outN n m r) false = true from hd); rcases List.mem_cons.1 h with h | h
  ·subst h
   cases hq:Nat.blt (num p) n with
   | true=>exact .inl (blt_iff.1 hq)
   | false=>rw [hq] at h1; exact .inr (Nat.le_of_ble_eq_true h1)
  ·exact outN_ok h2 x h
theorem ltL_ok {n:Nat}:∀ {a:Lg},ltL n a = true->∀ x ∈ a.ns,x < n
 | .nil,_,x,h=>absurd h List.not_mem_nil
 | .cons p r,hd,x,h=>by
  obtain ⟨h1,h2⟩:=bifB (show bif' (Nat.blt (num p) n) (ltL n r) false = true from hd); rcases List.mem_cons.1 h with h | h
  ·subst h; exact blt_iff.1 h1
  ·exact ltL_ok h2 x h
theorem nilL_ok {a:Lg} (h:nilL a = true):a.ns = []:=by cases a <;> first | rfl | (cases h; done)
theorem clsB_ok {c:Nat} {sg:Lg} {n m:Nat} (h:clsB c sg n m = true):(c<=1->sg.ns = []/\n = m)/\(c<=2->sg.ns = []):=by
 have h:bif' (Nat.ble c 1) (bif' (nilL sg) (Nat.beq n m) false) (bif' (Nat.ble c 2) (nilL sg) true) = true:=h
 cases h1:Nat.ble c 1 with
 | true =>
  rw [h1] at h; obtain ⟨a,b⟩:=bifB (show bif' (nilL sg) (Nat.beq n m) false = true from h); exact ⟨λ_=>⟨nilL_ok a,Nat.eq_of_beq_eq_true b⟩,λ_=>nilL_ok a⟩
 | false =>
  rw [h1] at h; have h:bif' (Nat.ble c 2) (nilL sg) true = true:=h; refine ⟨λhc=>?_,λhc=>?_⟩
  ·rw [Nat.ble_eq_true_of_le hc] at h1; cases h1
  ·rw [Nat.ble_eq_true_of_le hc] at h; exact nilL_ok h
structure Rk where
 rd:List Nat
 pre:List Nat
 n:Nat
 m:Nat
 cl:Nat
 call:Bool
 W:List Nat
def Rk.z:Rk:=⟨[],[],0,0,0,false,[]⟩
def Rk.ws (r:Rk):List Nat:=r.pre ++ List.range' r.n (r.m - r.n)
theorem mem_ws {r:Rk} {b:Nat}:b ∈ r.ws ↔ b ∈ r.pre\/(r.n<=b/\b < r.m):=by
 unfold Rk.ws
 rw [List.mem_append,List.mem_range'_1]
 constructor
 ·rintro (h | ⟨h1,h2⟩)
  ·exact .inl h
  ·exact .inr ⟨h1,by omega⟩
 ·rintro (h | ⟨h1,h2⟩)
  ·exact .inl h
  ·exact .inr ⟨h1,by omega⟩
structure Rk.Ok (r:Rk):Prop where
 nm:r.n<=r.m
 top:r.m<=32768
 pm:∀ b ∈ r.pre,b < r.m
 rn:∀ b ∈ r.rd,b < r.n
 c1:r.cl<=1->r.pre = []/\r.n = r.m
 c2:r.cl<=2->r.pre = []
 c3:r.cl = 0\/r.cl = 2->r.rd = []
 c4:r.call = true->r.cl = 4/\r.rd = []
def Rk.okU (r:Rk) (u:List Nat):Prop:=
 (r.call = true->(∀ b ∈ u,b ∈ r.W\/r.m<=b)/\∀ b ∈ r.W,b ∈ u)/\(r.call = false->∀ b ∈ u,b ∉ r.rd/\b ∉ r.pre/\(b < r.n\/r.m<=b))
structure Good (a b:Rk):Prop where
 ab:(b.call = true->∀ x ∈ a.ws,x ∈ b.W)/\(b.call = false->∀ x ∈ a.ws,x ∉ b.rd/\x ∉ b.pre/\(x < b.n\/b.m<=x))
 ba:(a.call = true->∀ x ∈ b.ws,a.m<=x)/\(a.call = false->∀ x ∈ b.ws,x ∉ a.rd/\x ∉ a.pre/\(x < a.n\/a.m<=x))
 dis:∀ x ∈ b.ws,x ∉ a.ws
def atR (p:List Rk) (i:Nat):Rk:=p.getD (p.length - 1 - i) .z
theorem atR_lt {r:Rk} {p:List Rk} {i:Nat} (h:i < p.length):atR (r :: p) i = atR p i:=by
 unfold atR
 rw [List.length_cons,show p.length + 1 - 1 - i = (p.length - 1 - i) + 1 by omega]; rfl
theorem atR_eq {r:Rk} {p:List Rk}:atR (r :: p) p.length = r:=by
 unfold atR
 rw [List.length_cons,show p.length + 1 - 1 - p.length = 0 by omega]; rfl
inductive RcR:Rc->List Rk->Prop
 | nil:RcR .nil []
 | cons {rd sg:Lg} {rs:Rc} {p:List Rk} {r:Rk}:r.rd = rd.ns->r.pre = sg.ns->RcR rs p->RcR (.cons rd sg r.n r.m rs) (r :: p)
theorem RcR.at {rs:Rc} {p:List Rk} (h:RcR rs p):∀ {i:Nat},i < p.length->∃ rd sg,(p.getD i .z).rd = rd.ns/\(p.getD i .z).pre = sg.ns/\∀ {β:Type} (d:β) (k:Lg->Lg->Nat->Nat->β),rcAt d k rs i = k rd sg (p.getD i .z).n (p.getD i .z).m:=by
 induction h with
 | nil=>intro i hi; exact absurd hi (Nat.not_lt_zero i)
 | cons h1 h2 h3 ih =>
  intro i hi
  cases i with
  | zero=>exact ⟨_,_,h1,h2,λd k=>rfl⟩
  | succ i =>
   obtain ⟨rd,sg,a,b,c⟩:=ih (Nat.lt_of_succ_lt_succ hi); exact ⟨rd,sg,a,b,λd k=>c d k⟩
theorem nl_all {f:Nat->Bool}:∀ {L:List Nat},(Nl.rec (motive:=λ_=>Bool) true (λi _ ih=>bif' (f i) ih false) (nls L):Bool) = true->∀ x ∈ L,f x = true
 | [],_,x,h=>absurd h List.not_mem_nil
 | a :: L,e,x,h=>by
  obtain ⟨h1,h2⟩:=bifB (show bif' (f a) (Nl.rec (motive:=λ_=>Bool) true (λi _ ih=>bif' (f i) ih false) (nls L)) false = true from e); rcases List.mem_cons.1 h with h | h
  ·subst h; exact h1
  ·exact nl_all h2 x h
theorem chkS_ok {rs:Rc} {p:List Rk} (h:RcR rs p) {rd sg:Lg} {L:List Nat} (e:chkS rs rd sg (nls L) = true) {x:Nat} (hx:x ∈ L) (hl:x < p.length) :
 (∀ b ∈ rd.ns,b ∉ (p.getD x .z).pre/\(b < (p.getD x .z).n\/(p.getD x .z).m<=b))/\∀ b ∈ sg.ns,b ∉ (p.getD x .z).rd/\b ∉ (p.getD x .z).pre/\(b < (p.getD x .z).n\/(p.getD x .z).m<=b):=by
 have q:=nl_all (f:=λi=>rcAt false (λrd' sg' n m=>bif' (disL rd sg') (bif' (outN n m rd) (bif' (disL sg rd') (bif' (disL sg sg') (outN n m sg) false) false) false) false) rs i) e x hx; obtain ⟨rd',sg',a,b,c⟩:=h.at hl; simp only [c] at q; obtain ⟨q1,q⟩:=bifB q; obtain ⟨q2,q⟩:=bifB q; obtain ⟨q3,q⟩:=bifB q; obtain ⟨q4,q5⟩:=bifB q; rw [a,b]; exact ⟨λy hy=>⟨disL_ok q1 y hy,outN_ok q2 y hy⟩,λy hy=>⟨disL_ok q3 y hy,disL_ok q4 y hy,outN_ok q5 y hy⟩⟩
theorem chkC_ok {rs:Rc} {p:List Rk} (h:RcR rs p) {sg:Lg} {L:List Nat} (e:chkC rs sg (nls L) = true) {x:Nat} (hx:x ∈ L) (hl:x < p.length) :
 ∀ b ∈ sg.ns,b ∉ (p.getD x .z).rd/\b ∉ (p.getD x .z).pre/\(b < (p.getD x .z).n\/(p.getD x .z).m<=b):=by
 have q:=nl_all (f:=λi=>rcAt false (λrd' sg' n m=>bif' (disL sg rd') (bif' (disL sg sg') (outN n m sg) false) false) rs i) e x hx; obtain ⟨rd',sg',a,b,c⟩:=h.at hl; simp only [c] at q; obtain ⟨q3,q⟩:=bifB q; obtain ⟨q4,q5⟩:=bifB q; rw [a,b]; exact λy hy=>⟨disL_ok q3 y hy,disL_ok q4 y hy,outN_ok q5 y hy⟩
theorem nmsFrom_ok:∀ (k n:Nat),n + k<=32768->∀ {b:Nat},b ∈ ((Nat.rec (motive:=λ_=>Nat->Lg) (λ_=>.nil) (λ_ ih n=>.cons (pth n) (ih (Nat.succ n))) k:Nat->Lg) n).ns ↔ n<=b/\b < n + k
 | 0,n,_,b=>⟨λh=>absurd h List.not_mem_nil,λh=>by omega⟩
 | k + 1,n,hl,b=>by
  have ih:=nmsFrom_ok k (n + 1) (by omega) (b:=b)
  show b ∈ num (pth n) :: _ ↔ _
  rw [List.mem_cons,num_pth (by omega)]; exact ⟨λh=>h.elim (λh=>by omega) (λh=>by have:=ih.1 h; omega),λh=>by
   rcases Nat.eq_or_lt_of_le h.1 with h1 | h1
   ·exact .inl h1.symm
   ·exact .inr (ih.2 (by omega))⟩
theorem wrsOf_ok {rs:Rc} {p:List Rk} (h:RcR rs p) (ho:∀ i,i < p.length->(p.getD i .z).Ok):∀ {L:List Nat},(∀ x ∈ L,x < p.length)->∀ {b:Nat},b ∈ (wrsOf rs (nls L)).ns ↔ ∃ x ∈ L,b ∈ (p.getD x .z).ws
 | [],_,b=>⟨λh=>absurd h List.not_mem_nil,λ⟨x,hx,_⟩=>absurd hx List.not_mem_nil⟩
 | a :: L,hL,b=>by
  have ih:=wrsOf_ok h ho (L:=L) (λx hx=>hL x (List.mem_cons_of_mem _ hx)) (b:=b); have hl:=hL a List.mem_cons_self; obtain ⟨rd',sg',e1,e2,c⟩:=h.at hl; have hok:=ho a hl
  show b ∈ (rcAt Lg.nil (λ_ sg n m=>appLg sg (appLg (nmsFrom n m) (wrsOf rs (nls L)))) rs a).ns ↔ _
  rw [c,ns_app,ns_app,List.mem_append,List.mem_append,ih,<- e2]; have q:b ∈ (nmsFrom (p.getD a .z).n (p.getD a .z).m).ns ↔ (p.getD a .z).n<=b/\b < (p.getD a .z).m:=by
   have:=nmsFrom_ok ((p.getD a .z).m - (p.getD a .z).n) (p.getD a .z).n (by have:=hok.nm; have:=hok.top; omega) (b:=b); rw [show (p.getD a .z).n + ((p.getD a .z).m - (p.getD a .z).n) = (p.getD a .z).m by have:=hok.nm; omega] at this; exact this
  rw [q]
  constructor
  ·rintro (h | h | ⟨x,hx,h⟩)
   ·exact ⟨a,List.mem_cons_self,mem_ws.2 (.inl h)⟩
   ·exact ⟨a,List.mem_cons_self,mem_ws.2 (.inr h)⟩
   ·exact ⟨x,List.mem_cons_of_mem _ hx,h⟩
  ·rintro ⟨x,hx,h⟩
   rcases List.mem_cons.1 hx with e | hx
   ·subst e
    rcases mem_ws.1 h with h | h
    ·exact .inl h
    ·exact .inr (.inl h)
   ·exact .inr (.inr ⟨x,hx,h⟩)
end
noncomputable section
theorem kill_get (u:List Nat) (H:List ABlk) (b:Nat):(kill u H)[b]? = if b ∈ u/\b < H.length then some .dead else H[b]?:=by
 by_cases h1:b ∈ u
 ·by_cases h2:b < H.length
  ·rw [if_pos ⟨h1,h2⟩,kill_in u H h1 h2]
  ·rw [if_neg (λh=>h2 h.2),List.getElem?_eq_none (by rw [kill_length]; omega),List.getElem?_eq_none (by omega)]
 ·rw [if_neg (λh=>h1 h.1),kill_out u H h1]
theorem HpR.put {h:Hp} {H:List ABlk} (hr:HpR h H) {p:Pth} {x:FB} {k:ABlk} (hx:num p < H.length->BkR x k) (ho:H.length<=num p->x = .dead) {lg:Lg} :
 HpR (.mk (hset x p h.ht) h.n lg) (H.set (num p) k):=by
 refine ⟨by rw [List.length_set]; exact hr.n,hr.lt,λb kb hb=>?_,λq hq=>?_⟩
 ·show BkR (hget (pth b) (hset x p h.ht)) kb
  by_cases e:b = num p
  ·subst e
   have hl:num p < H.length:=by
    have:=(List.getElem?_eq_some_iff.1 hb).1
    rwa [List.length_set] at this
   rw [List.getElem?_set_self hl] at hb
   cases hb
   rw [pth_num,hget_set]; exact hx hl
  ·rw [List.getElem?_set_ne (Ne.symm e)] at hb
   have hl:b < 32768:=Nat.lt_of_lt_of_le (List.getElem?_eq_some_iff.1 hb).1 (by rw [<- hr.n]; exact hr.lt); rw [hget_ne (λhp=>e (by rw [<- hp,num_pth hl]))]; exact hr.at' b kb hb
 ·rw [List.length_set] at hq
  show hget q (hset x p h.ht) = .dead
  by_cases e:q = p
  ·subst e; rw [hget_set]; exact ho hq
  ·rw [hget_ne e]; exact hr.out q hq
theorem killL_ok {h:Hp} {H:List ABlk} (hr:HpR h H):∀ (l:Lg),HpR (killL l h) (kill l.ns H)/\(killL l h).lg = h.lg
 | .nil=>⟨hr,rfl⟩
 | .cons p r=>by
  obtain ⟨a,b⟩:=killL_ok hr r; have e:killL (.cons p r) h = onHp (killL r h) λt n lg=>.mk (hset .dead p t) n lg:=rfl
  cases hk:killL r h with
  | mk t n lg =>
   rw [hk] at a b e; rw [show killL (.cons p r) h = .mk (hset .dead p t) n lg from e]; refine ⟨?_,b⟩; have q:=a.put (p:=p) (x:=.dead) (k:=.dead) (λ_=>trivial) (λ_=>rfl) (lg:=lg); have:(kill r.ns H).set (num p) .dead = kill (num p :: r.ns) H:=by
    refine List.ext_getElem? λb=>?_
    rw [kill_get]
    by_cases hb:b = num p
    ·subst hb
     by_cases hl:num p < H.length
     ·rw [List.getElem?_set_self (by rw [kill_length]; exact hl),if_pos ⟨List.mem_cons_self,hl⟩]
     ·rw [if_neg (λh=>hl h.2),List.getElem?_eq_none (by rw [List.length_set,kill_length]; omega),List.getElem?_eq_none (by omega)]
    ·rw [List.getElem?_set_ne (Ne.symm hb),kill_get]
     simp [hb]
   rw [this] at q; exact q
def restA (u:List Nat) (H0 G:List ABlk):List ABlk:=u.foldr (λb G=>G.set b (H0.getD b .dead)) G
theorem restA_length (u:List Nat) (H0 G:List ABlk):(restA u H0 G).length = G.length:=by
 induction u with
 | nil=>rfl
 | cons b u ih=>show ((restA u H0 G).set b _).length = _; rw [List.length_set,ih]
theorem restA_get (u:List Nat) (H0 G:List ABlk) (b:Nat):(restA u H0 G)[b]? = if b ∈ u/\b < G.length then some (H0.getD b .dead) else G[b]?:=by
 induction u with
 | nil=>simp [restA]
 | cons c u ih =>
  show ((restA u H0 G).set c (H0.getD c .dead))[b]? = _
  by_cases hb:b = c
  ·subst hb
   by_cases hl:b < G.length
   ·rw [List.getElem?_set_self (by rw [restA_length]; exact hl),if_pos ⟨List.mem_cons_self,hl⟩]
   ·rw [if_neg (λh=>hl h.2),List.getElem?_eq_none (by rw [List.length_set,restA_length]; omega),List.getElem?_eq_none (by omega)]
  ·rw [List.getElem?_set_ne (Ne.symm hb),ih]
   simp [hb]
theorem restL_ok {h0 h:Hp} {H0 G:List ABlk} (hr0:HpR h0 H0) (hr:HpR h G) (hl:H0.length<=G.length):∀ (l:Lg),HpR (restL l h0 h) (restA l.ns H0 G)/\(restL l h0 h).lg = h.lg
 | .nil=>by cases h0; exact ⟨hr,rfl⟩
 | .cons p r=>by
  obtain ⟨a,b⟩:=restL_ok hr0 hr hl r
  cases h0 with
  | mk t0 n0 lg0 =>
   have e:restL (.cons p r) (.mk t0 n0 lg0) h = onHp (restL r (.mk t0 n0 lg0) h) λt n lg=>.mk (hset (hget p t0) p t) n lg:=rfl
   cases hk:restL r (.mk t0 n0 lg0) h with
   | mk t n lg =>
    rw [hk] at a b e; rw [show restL (.cons p r) (.mk t0 n0 lg0) h = .mk (hset (hget p t0) p t) n lg from e]; refine ⟨?_,b⟩; refine a.put (p:=p) (x:=hget p t0) (k:=H0.getD (num p) .dead) (λ_=>?_) (λho=>?_) (lg:=lg)
    ·by_cases hp:num p < H0.length
     ·have:=hr0.at' (num p) _ (gEe hp)
      rw [pth_num] at this; rw [gDd,gEe hp]; exact this
     ·have:hget p t0 = .dead:=hr0.out p (by omega)
      rw [this]; exact trivial
    ·rw [restA_length] at ho
     exact hr0.out p (by omega)
structure Frb (pre:List Nat) (H H':List ABlk):Prop where
 len:H.length<=H'.length
 lt:∀ b ∈ pre,b < H'.length
 fr:∀ b,b < H.length->b ∉ pre->H'[b]? = H[b]?
 live:∀ b ∈ pre,b < H.length->H[b]? ≠ some .dead
theorem Fra.b {pre:List Nat} {h h':Hp} {H H':List ABlk} (a:Fra pre h h' H H'):Frb pre H H':=⟨a.len,a.lt,a.fr,a.live⟩
theorem Frb.refl (H:List ABlk):Frb [] H H:=⟨Nat.le_refl _,(λb hb=>absurd hb List.not_mem_nil),λ_ _ _=>rfl,λb hb=>absurd hb List.not_mem_nil⟩
theorem Frb.trans {p q:List Nat} {H H1 H2:List ABlk} (a:Frb p H H1) (b:Frb q H1 H2):Frb (q ++ p) H H2:=by
 refine ⟨Nat.le_trans a.len b.len,λx hx=>?_,λx hx hn=>?_,λx hx hl=>?_⟩
 ·rcases List.mem_append.1 hx with h | h
  ·exact b.lt x h
  ·exact Nat.lt_of_lt_of_le (a.lt x h) b.len
 ·rw [b.fr x (Nat.lt_of_lt_of_le hx a.len) (λh=>hn (List.mem_append.2 (.inl h))),a.fr x hx (λh=>hn (List.mem_append.2 (.inr h)))]
 ·by_cases hp:x ∈ p
  ·exact a.live x hp hl
  ·rcases List.mem_append.1 hx with h | h
   ·rw [<- a.fr x hl hp]; exact b.live x h (Nat.lt_of_lt_of_le hl a.len)
   ·exact absurd h hp
def Out (P:Program) (an:List Nat) (H0:List ABlk) (j:Nat) (l:List Ins) (S:List AV) (past:List Rk) (lg:List Nat) (H:List ABlk) (e:FE) (t':Fr) (h':Hp):Prop:=
 e = .nrm/\∃ pre S' H' pf,HpR h' H'/\h'.lg.ns = pre ++ lg/\Frb pre H H'/\FrR t' S'/\S'.length = S.length/\pf.length = j + l.length/\(∀ i,i < j->atR pf i = atR past i) /\
  (∀ q,j<=q->q < j + l.length->(∀ i,i < q->(an.getD q 0).testBit i = false->Good (atR pf i) (atR pf q))/\((atR pf q).call = true->∀ b ∈ (atR pf q).W,∃ i,i < q/\(an.getD q 0).testBit i = false/\b ∈ (atR pf i).ws)) /\
  ∀ (ws U:List (List Nat)) (Kk:List AV->List ABlk->Prop),(∀ k,j<=k->k < j + l.length->ws.getD k [] = (atR pf k).ws/\(atR pf k).okU (U.getD k [])/\∀ b ∈ (atR pf k).ws,b ∉ U.getD k []) ->
   (∀ b:Nat,H0[b]? = some ABlk.dead->H[b]? = some ABlk.dead)->Kk S' H'->DChain P ws U H0 j l S H Kk
theorem Out.nil {P:Program} {an:List Nat} {H0:List ABlk} {j:Nat} {S:List AV} {past:List Rk} {lg:Lg} {H:List ABlk} {t:Fr} {h:Hp} (hp:past.length = j) (hf:FrR t S) (hr:HpR h H) (hl:h.lg = lg) :
 Out P an H0 j [] S past lg.ns H .nrm t h:=
 ⟨rfl,[],S,H,past,hr,by rw [hl]; rfl,.refl H,hf,rfl,by simp [hp],λ_ _=>rfl,λq h1 h2=>by simp at h2; omega,λws U Kk _ _ hK=>hK⟩
theorem Out.step {P:Program} {an:List Nat} {H0:List ABlk} {j:Nat} {i:Ins} {l:List Ins} {S:List AV} {past:List Rk} {lg:List Nat} {H H':List ABlk} {e:FE} {t':Fr} {h':Hp} {a:AV} (r:Rk)
 (hp:past.length = j) (hg:∀ i,i < j->(an.getD j 0).testBit i = false->Good (atR past i) r) (hW:r.call = true->∀ b ∈ r.W,∃ i,i < j/\(an.getD j 0).testBit i = false/\b ∈ (atR past i).ws)
 (hn:r.n = H.length) (hm:r.m = H'.length) (hfb:Frb r.pre H H') (hs:∀ u,r.okU u->StepOk P i S (kill u H) a (kill u H'))
 (ih:Out P an H0 (j + 1) l (setO S i.dst a) (r :: past) (r.pre ++ lg) H' e t' h'):Out P an H0 j (i :: l) S past lg H e t' h':=by
 obtain ⟨e1,pre,S',H2,pf,a1,a2,a3,a4,a5,a6,a7,a8,a9⟩:=ih; subst hp; have aj:atR pf past.length = r:=by rw [a7 _ (Nat.lt_succ_self _),atR_eq]
 have al:∀ i,i < past.length->atR pf i = atR past i:=λi hi=>by rw [a7 i (by omega),atR_lt hi]
 have hd:∀ b:Nat,(∀ b:Nat,H0[b]? = some ABlk.dead->H[b]? = some ABlk.dead)->H0[b]? = some ABlk.dead->b ∉ r.pre/\b < H.length:=λb h1 h2 =>
  have h3:=h1 b h2; have hl:=(List.getElem?_eq_some_iff.1 h3).1
  ⟨λhb=>hfb.live b hb hl h3,hl⟩
 refine ⟨e1,pre ++ r.pre,S',H2,pf,a1,by rw [a2,List.append_assoc],hfb.trans a3,a4,by rw [a5,setO_len],by rw [a6,List.length_cons]; omega,al,λq h1 h2=>?_,λws U Kk hwu hdd hK=>?_⟩
 ·rcases Nat.eq_or_lt_of_le h1 with h1 | h1
  ·subst h1
   rw [aj]; refine ⟨λi hi hb=>by rw [al i hi]; exact hg i hi hb,λhc b hb=>?_⟩; obtain ⟨i,x1,x2,x3⟩:=hW hc b hb; exact ⟨i,x1,x2,by rw [al i x1]; exact x3⟩
  ·exact a8 q (by omega) (by rw [List.length_cons] at h2; omega)
 ·obtain ⟨w1,w2,w3⟩:=hwu past.length (Nat.le_refl _) (by rw [List.length_cons]; omega)
  rw [aj] at w1 w2 w3; refine ⟨a,H',hs _ w2,λb hb=>?_,hfb.len,λb hb=>?_,a9 ws U Kk (λk h1 h2=>hwu k (by omega) (by rw [List.length_cons]; omega)) (λb hb=>?_) hK⟩
  ·rw [w1] at hb
   by_cases hl:b < H.length
   ·exact hfb.fr b hl λh=>hb (mem_ws.2 (.inl h))
   ·have:¬ b < H'.length:=λh=>hb (mem_ws.2 (.inr ⟨by omega,by omega⟩))
    rw [List.getElem?_eq_none (by omega),List.getElem?_eq_none (by omega)]
  ·rw [w1] at hb
   refine ⟨w3 b hb,λh0=>?_⟩; obtain ⟨x1,x2⟩:=hd b hdd h0; rcases mem_ws.1 hb with h | h
   ·exact x1 h
   ·omega
  ·obtain ⟨x1,x2⟩:=hd b hdd hb
   rw [hfb.fr b x2 x1]; exact hdd b hb
end
noncomputable section
theorem ws_lt {r:Rk} (h:r.Ok) {x:Nat} (hx:x ∈ r.ws):x < r.m:=by
 rcases mem_ws.1 hx with h1 | h1
 ·exact h.pm x h1
 ·exact h1.2
theorem good_off {a b:Rk} (h1:b.rd = []) (h2:b.pre = []) (h3:b.n = b.m) (h4:b.call = false):Good a b:=by
 have hw:∀ x,x ∉ b.ws:=λx hx=>by
  rcases mem_ws.1 hx with h | h
  ·rw [h2] at h; exact absurd h List.not_mem_nil
  ·omega
 exact ⟨⟨λh=>(by rw [h4] at h; cases h),λ_ x _=>⟨by rw [h1]; exact List.not_mem_nil,by rw [h2]; exact List.not_mem_nil,by omega⟩⟩,
  ⟨λ_ x hx=>absurd hx (hw x),λ_ x hx=>absurd hx (hw x)⟩,λx hx=>absurd hx (hw x)⟩
theorem no_ws {a:Rk} (ha:a.Ok) (h:a.cl<=1):∀ x,x ∉ a.ws:=λx hx=>by
 obtain ⟨h1,h2⟩:=ha.c1 h; rcases mem_ws.1 hx with h | h
 ·rw [h1] at h; exact absurd h List.not_mem_nil
 ·omega
theorem call_no {a:Rk} (ha:a.Ok) (h:a.cl ≠ 4):a.call = false:=by
 cases hc:a.call with
 | true=>exact absurd (ha.c4 hc).1 h
 | false=>rfl
theorem good_new {a b:Rk} (ha:a.Ok) (hb:b.Ok) (hab:a.m<=b.n) {x:Nat} (h1:b.n<=x):x ∉ a.rd/\x ∉ a.pre/\(x < a.n\/a.m<=x):=
 ⟨λh=>by have:=ha.rn x h; have:=ha.nm; omega,λh=>by have:=ha.pm x h; omega,.inr (by omega)⟩
theorem good_rel0 {a b:Rk} (ha:a.Ok) (hb:b.Ok) (hab:a.m<=b.n) (h:rel2 a.cl b.cl = false):Good a b:=by
 have h:(a.cl == 0 || b.cl == 0 || (a.cl == 1 && b.cl == 1) || (a.cl == 1 && b.cl == 2) || (a.cl == 2 && b.cl == 2)) = true:=by
  cases hq:(a.cl == 0 || b.cl == 0 || (a.cl == 1 && b.cl == 1) || (a.cl == 1 && b.cl == 2) || (a.cl == 2 && b.cl == 2)) with
  | true=>rfl
  | false=>unfold rel2 at h; rw [hq] at h; cases h
 simp only [Bool.or_eq_true,Bool.and_eq_true,beq_iff_eq] at h
 by_cases hb0:b.cl = 0
 ·obtain ⟨h1,h2⟩:=hb.c1 (by omega)
  exact good_off (hb.c3 (.inl hb0)) h1 h2 (call_no hb (by omega))
 by_cases ha0:a.cl = 0
 ·obtain ⟨h1,h2⟩:=ha.c1 (by omega)
  have hw:=no_ws ha (by omega); exact ⟨⟨λ_ x hx=>absurd hx (hw x),λ_ x hx=>absurd hx (hw x)⟩,⟨λhc=>(by rw [call_no ha (by omega)] at hc; cases hc),
   λ_ x _=>⟨by rw [ha.c3 (.inl ha0)]; exact List.not_mem_nil,by rw [h1]; exact List.not_mem_nil,by omega⟩⟩,λx _=>hw x⟩
 have hac:a.call = false:=call_no ha (by omega); have hbc:b.call = false:=call_no hb (by omega); have hbp:b.pre = []:=hb.c2 (by omega); have hba:∀ x ∈ b.ws,x ∉ a.rd/\x ∉ a.pre/\(x < a.n\/a.m<=x):=λx hx=>by
  rcases mem_ws.1 hx with h | h
  ·rw [hbp] at h; exact absurd h List.not_mem_nil
  ·exact good_new ha hb hab h.1
 refine ⟨⟨λhc=>(by rw [hbc] at hc; cases hc),λ_ x hx=>?_⟩,⟨λhc=>(by rw [hac] at hc; cases hc),λ_=>hba⟩,λx hx hxa=>?_⟩
 ·by_cases ha1:a.cl = 1
  ·exact absurd hx (no_ws ha (by omega) x)
  ·have hb2:b.cl = 2:=by omega
   exact ⟨by rw [hb.c3 (.inr hb2)]; exact List.not_mem_nil,by rw [hbp]; exact List.not_mem_nil,.inl (by have:=ws_lt ha hx; omega)⟩
 ·obtain ⟨x1,x2,x3⟩:=hba x hx
  rcases mem_ws.1 hxa with h | h
  ·exact x2 h
  ·omega
theorem good_s {a b:Rk} (ha:a.Ok) (hb:b.Ok) (hab:a.m<=b.n) (hbc:b.call = false) (hbad:a.call = true->b.pre = [])
 (r1:∀ y ∈ b.rd,y ∉ a.pre/\(y < a.n\/a.m<=y)) (r2:∀ y ∈ b.pre,y ∉ a.rd/\y ∉ a.pre/\(y < a.n\/a.m<=y)):Good a b:=by
 have hba:∀ x ∈ b.ws,x ∉ a.rd/\x ∉ a.pre/\(x < a.n\/a.m<=x):=λx hx=>by
  rcases mem_ws.1 hx with h | h
  ·exact r2 x h
  ·exact good_new ha hb hab h.1
 refine ⟨⟨λhc=>(by rw [hbc] at hc; cases hc),λ_ x hx=>⟨λh=>?_,λh=>?_,.inl (by have:=ws_lt ha hx; omega)⟩⟩,⟨λhc x hx=>?_,λ_=>hba⟩,λx hx hxa=>?_⟩
 ·obtain ⟨x1,x2⟩:=r1 x h
  rcases mem_ws.1 hx with h | h
  ·exact x1 h
  ·omega
 ·obtain ⟨_,x1,x2⟩:=r2 x h
  rcases mem_ws.1 hx with h | h
  ·exact x1 h
  ·omega
 ·rcases mem_ws.1 hx with h | h
  ·rw [hbad hc] at h; exact absurd h List.not_mem_nil
  ·omega
 ·obtain ⟨_,x1,x2⟩:=hba x hx
  rcases mem_ws.1 hxa with h | h
  ·exact x1 h
  ·omega
theorem good_k {a b:Rk} (ha:a.Ok) (hb:b.Ok) (hab:a.m<=b.n) (hbc:b.call = true) (hac:a.call = false)
 (hw:∀ x ∈ a.ws,x ∈ b.W) (r2:∀ y ∈ b.pre,y ∉ a.rd/\y ∉ a.pre/\(y < a.n\/a.m<=y)):Good a b:=by
 have hba:∀ x ∈ b.ws,x ∉ a.rd/\x ∉ a.pre/\(x < a.n\/a.m<=x):=λx hx=>by
  rcases mem_ws.1 hx with h | h
  ·exact r2 x h
  ·exact good_new ha hb hab h.1
 refine ⟨⟨λ_=>hw,λhc=>(by rw [hbc] at hc; cases hc)⟩,⟨λhc=>(by rw [hac] at hc; cases hc),λ_=>hba⟩,λx hx hxa=>?_⟩; obtain ⟨_,x1,x2⟩:=hba x hx; rcases mem_ws.1 hxa with h | h
 ·exact x1 h
 ·omega
section
variable {P:Program} {F:FC'} {okf:Nat->Bool}
theorem StepOk_one {i:Ins} {S:List AV} {G G':List ABlk} {v:AV} (hw:wanted S i.g = some true) (hc:isCall i.k = false) (h:evK i.k S G = some (v,G')):StepOk P i S G v G':=by
 obtain ⟨d,k,g⟩:=i; simp only at hw hc h
 cases k <;> first | (cases hc; done) | (simp only [StepOk,hw]; exact h)
theorem StepOk_off {i:Ins} {S:List AV} {G:List ABlk} (hw:wanted S i.g = some false):StepOk P i S G (.tup []) G:=by
 simp only [StepOk,hw]; exact ⟨trivial,trivial⟩
theorem rd_0 {k:K} (h:kcls k = 0\/kcls k = 2):krd k = .no:=by
 cases k <;> first | rfl | (rcases h with h | h <;> cases h; done)
theorem cls4 {k:K} (h:isCall k = false):kcls k ≠ 4:=by cases k <;> first | (cases h; done) | (intro q; cases q)
theorem cls4' {k:K} (h:isCall k = true):kcls k = 4:=by cases k <;> first | rfl | (cases h; done)
theorem call_step (hF:FOk P F) (hok:∀ f,okf f = true->callOk P f = true) {t:Fr} {S:List AV} {n:Nat} {T:HT} {H:List ABlk} {v:FV} {h2:Hp} {i:Ins} (hf:FrR t S) (hsl:∀ n ∈ i.k.sl,n < S.length)
 (hr:HpR (.mk T n .nil) H) {W:Lg} (hW:∀ b ∈ W.ns,b < H.length) (hw:wanted S i.g = some true) (hc:isCall i.k = true) (e:evFK F okf (fk i.k) t (killL W (.mk T n .nil)) = .ok v h2) :
 ∃ H',HpR (restL W (.mk T n .nil) h2) H'/\(restL W (.mk T n .nil) h2).lg = h2.lg/\Frb h2.lg.ns H H'/\∀ u,(∀ b ∈ u,b ∈ W.ns\/H'.length<=b)->(∀ b ∈ W.ns,b ∈ u)->StepOk P i S (kill u H) (toA v) (kill u H'):=by
 obtain ⟨k1,k2⟩:=killL_ok hr W; have key:∃ f as,F f as (killL W (.mk T n .nil)) = .ok v h2/\∀ G G',ACalls P f (toAs as) G (λv' G''=>v' = toA v/\G'' = G')->StepOk P i S G (toA v) G':=by
  obtain ⟨d,k,g⟩:=i
  cases k with
  | call f args =>
   refine ⟨f,_,show F f (gOs (fos args) t) (killL W (.mk T n .nil)) = .ok v h2 from e,λG G' c=>?_⟩; rw [gOs_ok hf (inS_mem hsl)] at c; simp only [StepOk,hw]; exact c
  | callv g args =>
   obtain ⟨h1,h2⟩:=in2 hsl; have eg:=gO_ok hf (x:=g) h1; obtain ⟨f,cs,ho,⟨hx,e1⟩ | ⟨hx,e1⟩⟩:=k_callv_ok (show k_callv F okf (gO (fo g) t) (gOs (fos args) t) (killL W (.mk T n .nil)) = _ from e)
   ·refine ⟨f,_,e1,λG G' c=>?_⟩
    rw [toAs_append,gOs_ok hf (inS_mem h2)] at c; rw [hx] at eg; simp only [StepOk,hw,eg,toA]; exact ⟨hok f ho,c⟩
   ·refine ⟨f,_,e1,λG G' c=>?_⟩
    rw [toAs_append,gOs_ok hf (inS_mem h2)] at c; rw [hx] at eg; simp only [StepOk,hw,eg,toA]; exact ⟨hok f ho,c⟩
  | inv tb x args =>
   obtain ⟨h1,h2⟩:=in2 hsl; have eg:=gO_ok hf (x:=x) h1; obtain ⟨ty,y,f,hx,ht,e1⟩:=k_inv_ok (show k_inv F (ftb tb) (gO (fo x) t) (gOs (fos args) t) (killL W (.mk T n .nil)) = _ from e); refine ⟨f,_,e1,λG G' c=>?_⟩; rw [show toAs (y :: gOs (fos args) t) = toA y :: toAs (gOs (fos args) t) from rfl,gOs_ok hf (inS_mem h2)] at c; rw [hx] at eg; simp only [StepOk,hw,eg,toA,ht]; exact c
  | _=>cases hc
 obtain ⟨f,as,e,kc⟩:=key; obtain ⟨pre,G',a,b,c⟩:=hF k1 e; have hlen:H.length<=G'.length:=by have:=b.len; rwa [kill_length] at this
 obtain ⟨r1,r2⟩:=restL_ok hr a hlen W; have hpre:h2.lg.ns = pre:=by
  rw [b.log,k2]; exact List.append_nil _
 have gk:∀ b' ,b' ∈ W.ns->G'[b']? = some .dead:=λx hx=>by
  have hd:(kill W.ns H)[x]? = some .dead:=by rw [kill_get,if_pos ⟨hx,hW x hx⟩]
  rw [b.fr x (by rw [kill_length]; exact hW x hx) λhp=>b.live x hp (by rw [kill_length]; exact hW x hx) hd]; exact hd
 refine ⟨restA W.ns H G',r1,r2,?_,λu h1 h2'=>?_⟩
 ·rw [hpre]
  refine ⟨by rw [restA_length]; exact hlen,λx hx=>by rw [restA_length]; exact b.lt x hx,λx hx hp=>?_,λx hx hl hd=>?_⟩
  ·rw [restA_get]
   by_cases hxw:x ∈ W.ns
   ·rw [if_pos ⟨hxw,by omega⟩,gDd,gEe hx]; rfl
   ·rw [if_neg λh=>hxw h.1,b.fr x (by rw [kill_length]; exact hx) hp,kill_get,if_neg λh=>hxw h.1]
  ·refine b.live x hx (by rw [kill_length]; exact hl) ?_
   rw [kill_get]
   by_cases hxw:x ∈ W.ns/\x < H.length
   ·rw [if_pos hxw]
   ·rw [if_neg hxw]; exact hd
 ·rw [restA_length] at h1
  have e1:kill u H = kill W.ns H:=by
   refine List.ext_getElem? λx=>?_
   rw [kill_get,kill_get]
   by_cases hx:x < H.length
   ·have:x ∈ u ↔ x ∈ W.ns:=⟨λh=>(h1 x h).elim id (λh=>by omega),h2' x⟩
    simp only [this]
   ·rw [if_neg λh=>hx h.2,if_neg λh=>hx h.2]
  have e2:kill u (restA W.ns H G') = G':=by
   refine List.ext_getElem? λx=>?_
   rw [kill_get,restA_length,restA_get]
   by_cases hxw:x ∈ W.ns
   ·by_cases hl:x < G'.length
    ·rw [if_pos ⟨h2' x hxw,hl⟩,gk x hxw]
    ·rw [if_neg λh=>hl h.2,if_neg λh=>hl h.2]
   ·by_cases hxu:x ∈ u/\x < G'.length
    ·rcases h1 x hxu.1 with h | h
     ·exact absurd h hxw
     ·omega
    ·rw [if_neg hxu,if_neg λh=>hxw h.1]
  rw [e1,e2]; exact kc _ _ c
end
end
noncomputable section
section
variable {P:Program} {F:FC'} {okf:Nat->Bool}
theorem bifX {c:Bool} {a:FX} {e:FE} {t':Fr} {h':Hp} (h:bif' c a .no = .ok e t' h'):c = true/\a = .ok e t' h':=by cases c with | true=>exact ⟨rfl,h⟩ | false=>cases h
theorem guard_any {t:Fr} {S:List AV} {h':Hp} (hf:FrR t S) {g:Option (Nat × Bool)} (hi:∀ x b,g = some (x,b)->x < S.length) {y n:FX} {e:FE} {t':Fr} (hg:guard (fg g) t y n = .ok e t' h') :
 (wanted S g = some true/\y = .ok e t' h')\/(wanted S g = some false/\n = .ok e t' h'):=by
 cases g with
 | none=>exact .inl ⟨rfl,hg⟩
 | some g=>obtain ⟨x,b⟩:=g; exact guard_ok hf (hi x b rfl) hg
theorem bef {an cl:List Nat} {i j:Nat} (h1:i < j) (h2:(an.getD j 0).testBit i = false) (h3:rel2 (cl.getD i 5) (cl.getD j 5) = true):i ∈ beforeJ an cl j:=by
 unfold beforeJ
 rw [List.mem_filter,List.mem_range,h2,h3]; exact ⟨h1,rfl⟩
theorem bef_lt {an cl:List Nat} {i j:Nat} (h:i ∈ beforeJ an cl j):i < j/\(an.getD j 0).testBit i = false:=by
 unfold beforeJ at h
 rw [List.mem_filter,List.mem_range] at h; obtain ⟨h1,h2⟩:=h; refine ⟨h1,?_⟩
 cases hq:(an.getD j 0).testBit i with
 | true=>rw [hq] at h2; cases h2
 | false=>rfl
theorem atR_get {p:List Rk} {i:Nat}:p.getD (p.length - 1 - i) .z = atR p i:=rfl
theorem fJs_ok (hF:FOk P F) (hok:∀ f,okf f = true->callOk P f = true) {an cl:List Nat} {N:Nat} {H0:List ABlk}
 (hbad:∀ q,q < N->∀ i ∈ beforeJ an cl q,cl.getD i 5 = 4->cl.getD q 5 = 1\/cl.getD q 5 = 2) :
 ∀ {l:List Ins} {j:Nat} {past:List Rk} {rs:Rc} {lg:Lg} {t:Fr} {S:List AV} {h:Hp} {H:List ABlk} {e:FE} {t':Fr} {h':Hp},
  j + l.length = N->(∀ k i,l[k]? = some i->cl.getD (j + k) 5 = kcls i.k)->(∀ i ∈ l,InsIn S.length i)->past.length = j->RcR rs past ->
  (∀ i,i < j->(atR past i).Ok/\(atR past i).cl = cl.getD i 5/\(atR past i).m<=H.length)->FrR t S->HpR h H->h.lg = .nil ->
  fJs F okf (fjs an cl j l) rs lg t h = .ok e t' h'->Out P an H0 j l S past lg.ns H e t' h'
 | [],j,past,rs,lg,t,S,h,H,e,t',h',hN,hcl,hi,hp,hrc,hpa,hf,hr,hl,hx=>by
  cases h with
  | mk T n lg0 =>
   cases (show FX.ok .nrm t (.mk T n lg) = .ok e t' h' from hx)
   exact Out.nil hp hf ⟨hr.n,hr.lt,hr.at',hr.out⟩ rfl
 | i :: l,j,past,rs,lg,t,S,h,H,e,t',h',hN,hcl,hi,hp,hrc,hpa,hf,hr,hl,hx=>by
  have hi0:=hi i List.mem_cons_self; have hil:∀ a:AV,∀ j ∈ l,InsIn (setO S i.dst a).length j:=λa j hj=>by rw [setO_len]; exact hi j (List.mem_cons_of_mem _ hj)
  have hcj:cl.getD j 5 = kcls i.k:=hcl 0 i rfl; have hcl':∀ k x,l[k]? = some x->cl.getD (j + 1 + k) 5 = kcls x.k:=λk x hk=>by rw [show j + 1 + k = j + (k + 1) by omega]; exact hcl (k + 1) x hk
  have hN':j + 1 + l.length = N:=by rw [List.length_cons] at hN; omega
  have hjN:j < N:=by rw [List.length_cons] at hN; omega
  have hpa':∀ (r:Rk) (H':List ABlk),r.Ok->r.cl = kcls i.k->r.m = H'.length->H.length<=H'.length ->
   ∀ q,q < j + 1->(atR (r :: past) q).Ok/\(atR (r :: past) q).cl = cl.getD q 5/\(atR (r :: past) q).m<=H'.length:=λr H' h1 h2 h3 h4 q hq=>by
   rcases Nat.lt_succ_iff_lt_or_eq.1 hq with hq | hq
   ·rw [atR_lt (by omega)]
    obtain ⟨a,b,c⟩:=hpa q hq; exact ⟨a,b,by omega⟩
   ·subst hq
    subst hp; rw [atR_eq]; exact ⟨h1,by rw [h2,hcj],by omega⟩
  have hpd:∀ x,x < past.length->(past.getD x .z).Ok:=λx hx=>by
   have:=(hpa (j - 1 - x) (by omega)).1
   unfold atR at this
   rw [show past.length - 1 - (j - 1 - x) = x by omega] at this; exact this
  cases h with
  | mk T n lg0 =>
   have hl:lg0 = .nil:=hl; subst hl; have hnH:n = H.length:=hr.n; rcases guard_any hf (g:=i.g) (λx b hg=>hi0.sl x (List.mem_append.2 (.inr (by rw [hg]; simp)))) hx with ⟨hw,hx⟩ | ⟨hw,hx⟩
   ·cases hc:isCall i.k with
    | false =>
     have hk4:(kcls i.k == 4) = false:=beq_false_of_ne (cls4 hc); rw [hk4] at hx; obtain ⟨v,h1,e1,e2⟩:=onR_ok (show onR (λv h'=>onHp h' λT m sg=>bif' (ltL n (rdOfF (krd i.k) t)) (bif' (clsB (kcls i.k) sg n m) (bif' (chkS rs (rdOfF (krd i.k) t) sg (nls ((beforeJ an cl j).map λi=>j - 1 - i)))
      (fJs F okf (fjs an cl (j + 1) l) (.cons (rdOfF (krd i.k) t) sg n m rs) (appLg sg lg) (putD (fd i.dst) v t) (.mk T m .nil)) .no) .no) .no) (evFK F okf (fk i.k) t (.mk T n .nil)) = .ok e t' h' from hx)
     cases h1 with
     | mk T1 m sg =>
      obtain ⟨c1,e2⟩:=bifX e2; obtain ⟨c2,e2⟩:=bifX e2; obtain ⟨c3,e2⟩:=bifX e2; obtain ⟨pre,H1,a,b,c⟩:=evFK_ok hf (λn hn=>hi0.sl n (List.mem_append.2 (.inl hn))) hc hr e1; have hpre:pre = sg.ns:=by have:=b.log; rw [show (Hp.mk T n .nil).lg.ns = [] from rfl,List.append_nil] at this; exact this.symm
      subst hpre; have hm:m = H1.length:=a.n; have hok1:(Rk.mk (rdOfF (krd i.k) t).ns sg.ns n m (kcls i.k) false []).Ok:=by
       refine ⟨by have:=b.len; show n<=m; omega,a.lt,λx hx=>by show x < m; rw [hm]; exact b.lt x hx,λx hx=>ltL_ok c1 x hx,(clsB_ok c2).1,(clsB_ok c2).2,λhq=>?_,λhq=>by cases hq⟩
       show (rdOfF (krd i.k) t).ns = []
       rw [rd_0 hq]; rfl
      refine Out.step (a:=toA v) (H':=H1) ⟨(rdOfF (krd i.k) t).ns,sg.ns,n,m,kcls i.k,false,[]⟩ hp (λq hq hb=>?_) (λhq=>by cases hq) hnH hm b.b (λu hu=>?_) ?_
      ·obtain ⟨p1,p2,p3⟩:=hpa q hq
       cases hrel:rel2 (cl.getD q 5) (cl.getD j 5) with
       | false=>exact good_rel0 p1 hok1 (by show _<=n; omega) (by rw [p2]; show rel2 _ (kcls i.k) = false; rw [<- hcj]; exact hrel)
       | true =>
        have hbq:=bef hq hb hrel; have hx:past.length - 1 - q ∈ (beforeJ an cl j).map λi=>j - 1 - i:=List.mem_map.2 ⟨q,hbq,by rw [hp]⟩
        obtain ⟨q1,q2⟩:=chkS_ok hrc c3 hx (by omega); refine good_s p1 hok1 (by show _<=n; omega) rfl (λhca=>?_) q1 q2; have:=hbad j hjN q hbq (by rw [<- p2]; exact (p1.c4 hca).1); exact hok1.c2 (by show kcls i.k<=2; omega)
      ·refine StepOk_one hw hc (c u λx hx=>?_)
       obtain ⟨u1,u2,u3⟩:=hu.2 rfl x hx; exact ⟨u1,u2,by rw [<- hnH,<- hm]; exact u3⟩
      ·show Out P an H0 (j + 1) l (setO S i.dst (toA v)) _ (sg.ns ++ lg.ns) H1 e t' h'
       rw [<- ns_app]; exact fJs_ok hF hok hbad hN' hcl' (hil _) (by rw [List.length_cons,hp]) (.cons (r:=⟨(rdOfF (krd i.k) t).ns,sg.ns,n,m,kcls i.k,false,[]⟩) rfl rfl hrc) (hpa' _ H1 hok1 rfl hm b.len) (putD_ok hf hi0.dst v) (show HpR (.mk T1 m .nil) H1 from ⟨a.n,a.lt,a.at',a.out⟩) rfl e2
    | true =>
     have hk4:(kcls i.k == 4) = true:=by rw [cls4' hc]; rfl
     rw [hk4] at hx; obtain ⟨v,h1,e1,e2⟩:=onR_ok (show onR (λv h'=>onHp (restL (wrsOf rs (nls ((beforeJ an cl j).map λi=>j - 1 - i))) (.mk T n .nil) h') λT m sg=>bif' (chkC rs sg (nls ((beforeJ an cl j).map λi=>j - 1 - i)))
      (fJs F okf (fjs an cl (j + 1) l) (.cons .nil sg n m rs) (appLg sg lg) (putD (fd i.dst) v t) (.mk T m .nil)) .no) (evFK F okf (fk i.k) t (killL (wrsOf rs (nls ((beforeJ an cl j).map λi=>j - 1 - i))) (.mk T n .nil))) = .ok e t' h' from hx)
     have hLl:∀ x ∈ (beforeJ an cl j).map (λi=>j - 1 - i),x < past.length:=λx hx=>by
      obtain ⟨q,hq,rfl⟩:=List.mem_map.1 hx; have:=(bef_lt hq).1; omega
     have hWm:=λb=>wrsOf_ok hrc hpd hLl (b:=b)
     have hWa:∀ b ∈ (wrsOf rs (nls ((beforeJ an cl j).map λi=>j - 1 - i))).ns,∃ q,q < j/\(an.getD j 0).testBit q = false/\b ∈ (atR past q).ws:=λb hb=>by
      obtain ⟨x,hx,hbx⟩:=(hWm b).1 hb; obtain ⟨q,hq,rfl⟩:=List.mem_map.1 hx; refine ⟨q,(bef_lt hq).1,(bef_lt hq).2,?_⟩; rw [<- atR_get,hp]; exact hbx
     obtain ⟨H1,a,b,b2,c⟩:=call_step hF hok hf (λn hn=>hi0.sl n (List.mem_append.2 (.inl hn))) hr (λx hx=>by
      obtain ⟨q,q1,q2,q3⟩:=hWa x hx; obtain ⟨p1,p2,p3⟩:=hpa q q1; have:=ws_lt p1 q3
      omega) hw hc e1
     generalize hgr:restL (wrsOf rs (nls ((beforeJ an cl j).map λi=>j - 1 - i))) (.mk T n .nil) h1 = h3 at e2 a b
     cases h3 with
     | mk T1 m sg =>
      obtain ⟨c3,e2⟩:=bifX e2; have hsg:sg = h1.lg:=b; rw [<- hsg] at b2; have hm:m = H1.length:=a.n
      generalize hgw:(wrsOf rs (nls ((beforeJ an cl j).map λi=>j - 1 - i))).ns = W at hWm hWa c
      have hok1:(Rk.mk [] sg.ns n m (kcls i.k) true W).Ok:=
       ⟨by have := b2.len; show n <= m; omega, a.lt, fun x hx => by show x < m; rw [hm]; exact b2.lt x hx, fun x hx => absurd hx List.not_mem_nil, fun hq => by have := cls4' hc; have : kcls i.k <= 1 := hq; omega,
         λhq=>by have:=cls4' hc; have:kcls i.k<=2:=hq; omega,λ_=>rfl,λ_=>⟨cls4' hc,rfl⟩⟩
      refine Out.step (a:=toA v) (H':=H1) ⟨[],sg.ns,n,m,kcls i.k,true,W⟩ hp (λq hq hb=>?_) (λ_=>hWa) hnH hm b2 (λu hu=>?_) ?_
      ·obtain ⟨p1,p2,p3⟩:=hpa q hq
       cases hrel:rel2 (cl.getD q 5) (cl.getD j 5) with
       | false=>exact good_rel0 p1 hok1 (by show _<=n; omega) (by rw [p2]; show rel2 _ (kcls i.k) = false; rw [<- hcj]; exact hrel)
       | true =>
        have hbq:=bef hq hb hrel; have hx:past.length - 1 - q ∈ (beforeJ an cl j).map λi=>j - 1 - i:=List.mem_map.2 ⟨q,hbq,by rw [hp]⟩
        have q2:=chkC_ok hrc c3 hx (by omega); have hac:(atR past q).call = false:=by
         cases hca:(atR past q).call with
         | false=>rfl
         | true =>
          have:=hbad j hjN q hbq (by rw [<- p2]; exact (p1.c4 hca).1); have:=cls4' hc; omega
        exact good_k p1 hok1 (by show _<=n; omega) rfl hac (λx hxa=>(hWm x).2 ⟨_,hx,hxa⟩) q2
      ·exact c u (λx hx=>by rw [<- hm]; exact (hu.1 rfl).1 x hx) (hu.1 rfl).2
      ·show Out P an H0 (j + 1) l (setO S i.dst (toA v)) _ (sg.ns ++ lg.ns) H1 e t' h'
       rw [<- ns_app]; exact fJs_ok hF hok hbad hN' hcl' (hil _) (by rw [List.length_cons,hp]) (.cons (r:=⟨[],sg.ns,n,m,kcls i.k,true,W⟩) (rd:=.nil) rfl rfl hrc) (hpa' _ H1 hok1 rfl hm b2.len) (putD_ok hf hi0.dst v) (show HpR (.mk T1 m .nil) H1 from ⟨a.n,a.lt,a.at',a.out⟩) rfl e2
   ·have hok1 : (Rk.mk [] [] n n (kcls i.k) false []).Ok :=
     ⟨Nat.le_refl _,hr.lt,λx hx=>absurd hx List.not_mem_nil,λx hx=>absurd hx List.not_mem_nil,λ_=>⟨rfl,rfl⟩,λ_=>rfl,λ_=>rfl,λhq=>by cases hq⟩
    refine Out.step (a:=.tup []) (H':=H) ⟨[],[],n,n,kcls i.k,false,[]⟩ hp (λq hq hb=>good_off rfl rfl rfl rfl) (λhq=>by cases hq) hnH hnH (.refl H) (λu hu=>StepOk_off hw) ?_; exact fJs_ok hF hok hbad hN' hcl' (hil _) (by rw [List.length_cons,hp]) (.cons (r:=⟨[],[],n,n,kcls i.k,false,[]⟩) (rd:=.nil) (sg:=.nil) rfl rfl hrc) (hpa' _ H hok1 rfl hnH (Nat.le_refl _)) (putD_ok hf hi0.dst (.tup [])) hr rfl
     (show fJs F okf (fjs an cl (j + 1) l) (.cons .nil .nil n n rs) lg (putD (fd i.dst) (.tup []) t) (.mk T n .nil) = .ok e t' h' from hx)
end
end
end Go.Proofs.YtofpekbidngnfaaGreatDoor
