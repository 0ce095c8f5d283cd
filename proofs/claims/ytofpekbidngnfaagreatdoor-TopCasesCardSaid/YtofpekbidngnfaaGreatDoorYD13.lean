/-
  The map literal of tree.parsed: it is laid out in any order, and looked up alone. Printed by genD11.py.
-/
import Derived.Test.YtofpekbidngnfaaGreatDoorYFpN
import Derived.Test.YtofpekbidngnfaaGreatDoorProg
import Derived.Tactics
import Derived.Tactics2
set_option linter.constructorNameAsVariable false
set_option linter.unusedSectionVars false
set_option linter.unusedSimpArgs false
set_option linter.unusedVariables false
set_option maxHeartbeats 2000000
set_option maxRecDepth 20000
namespace Go.Proofs.YtofpekbidngnfaaGreatDoor
open Go.RowKit
noncomputable section
def pr11:List (List Nat):=[[],[],[],[],[2,3],[],[2,5],[],[2,7],[],[2,9],[],[2,11],[],[2,13],[],[2,15],[],[2,17],[],[2,19],[],[2,21],[],[2,23],[],[2,25],[2,3,4,5,6,7,8,9,10,11,12,13,14,15,16,17,18,19,20,21,22,23,24,25,26],[0,1,27],[28],[29,0,1,2,3,4,5,6,7,8,9,10,11,12,13,14,15,16,17,18,19,20,21,22,23,24,25,26,27,28,29]]
def l11:List Ins:=[⟨(some 9),.mv (.t 0),none⟩,⟨(some 10),.mv (.t 1),none⟩,⟨(some 11),.mkm ⟨true,[.i .i64,.s]⟩,none⟩,⟨(some 12),.bd [(.d (.v (.int .i64 0))),(.d (.v (.string ⟨#[]⟩)))] [(0,1,(.c (.d (.v (.int .i64 1))))),(1,1,(.c (.d (.v (.string ⟨#[]⟩)))))],none⟩,⟨none,.mu ⟨true,[.i .i64,.s]⟩ (.t 11) (.t 12) (.c (.d (.v (.int .i64 1)))),none⟩,⟨(some 13),.bd [(.d (.v (.int .i64 0))),(.d (.v (.string ⟨#[]⟩)))] [(0,1,(.c (.d (.v (.int .i64 3))))),(1,1,(.c (.d (.v (.string ⟨#[]⟩)))))],none⟩,⟨none,.mu ⟨true,[.i .i64,.s]⟩ (.t 11) (.t 13) (.c (.d (.v (.int .i64 2)))),none⟩,⟨(some 14),.bd [(.d (.v (.int .i64 0))),(.d (.v (.string ⟨#[]⟩)))] [(0,1,(.c (.d (.v (.int .i64 4))))),(1,1,(.c (.d (.v (.string ⟨#[]⟩)))))],none⟩,⟨none,.mu ⟨true,[.i .i64,.s]⟩ (.t 11) (.t 14) (.c (.d (.v (.int .i64 2)))),none⟩,⟨(some 15),.bd [(.d (.v (.int .i64 0))),(.d (.v (.string ⟨#[]⟩)))] [(0,1,(.c (.d (.v (.int .i64 5))))),(1,1,(.c (.d (.v (.string ⟨#[]⟩)))))],none⟩,⟨none,.mu ⟨true,[.i .i64,.s]⟩ (.t 11) (.t 15) (.c (.d (.v (.int .i64 2)))),none⟩,⟨(some 16),.bd [(.d (.v (.int .i64 0))),(.d (.v (.string ⟨#[]⟩)))] [(0,1,(.c (.d (.v (.int .i64 2))))),(1,1,(.c (.d (.v (.string ⟨#[78,73,76]⟩)))))],none⟩,⟨none,.mu ⟨true,[.i .i64,.s]⟩ (.t 11) (.t 16) (.c (.d (.v (.int .i64 2)))),none⟩,⟨(some 17),.bd [(.d (.v (.int .i64 0))),(.d (.v (.string ⟨#[]⟩)))] [(0,1,(.c (.d (.v (.int .i64 2))))),(1,1,(.c (.d (.v (.string ⟨#[84,82,85,69]⟩)))))],none⟩,⟨none,.mu ⟨true,[.i .i64,.s]⟩ (.t 11) (.t 17) (.c (.d (.v (.int .i64 2)))),none⟩,⟨(some 18),.bd [(.d (.v (.int .i64 0))),(.d (.v (.string ⟨#[]⟩)))] [(0,1,(.c (.d (.v (.int .i64 2))))),(1,1,(.c (.d (.v (.string ⟨#[70,65,76,83,69]⟩)))))],none⟩,⟨none,.mu ⟨true,[.i .i64,.s]⟩ (.t 11) (.t 18) (.c (.d (.v (.int .i64 2)))),none⟩,⟨(some 19),.bd [(.d (.v (.int .i64 0))),(.d (.v (.string ⟨#[]⟩)))] [(0,1,(.c (.d (.v (.int .i64 6))))),(1,1,(.c (.d (.v (.string ⟨#[123]⟩)))))],none⟩,⟨none,.mu ⟨true,[.i .i64,.s]⟩ (.t 11) (.t 19) (.c (.d (.v (.int .i64 2)))),none⟩,⟨(some 20),.bd [(.d (.v (.int .i64 0))),(.d (.v (.string ⟨#[]⟩)))] [(0,1,(.c (.d (.v (.int .i64 6))))),(1,1,(.c (.d (.v (.string ⟨#[40]⟩)))))],none⟩,⟨none,.mu ⟨true,[.i .i64,.s]⟩ (.t 11) (.t 20) (.c (.d (.v (.int .i64 2)))),none⟩,⟨(some 21),.bd [(.d (.v (.int .i64 0))),(.d (.v (.string ⟨#[]⟩)))] [(0,1,(.c (.d (.v (.int .i64 6))))),(1,1,(.c (.d (.v (.string ⟨#[126]⟩)))))],none⟩,⟨none,.mu ⟨true,[.i .i64,.s]⟩ (.t 11) (.t 21) (.c (.d (.v (.int .i64 2)))),none⟩,⟨(some 22),.bd [(.d (.v (.int .i64 0))),(.d (.v (.string ⟨#[]⟩)))] [(0,1,(.c (.d (.v (.int .i64 6))))),(1,1,(.c (.d (.v (.string ⟨#[43]⟩)))))],none⟩,⟨none,.mu ⟨true,[.i .i64,.s]⟩ (.t 11) (.t 22) (.c (.d (.v (.int .i64 3)))),none⟩,⟨(some 23),.bd [(.d (.v (.int .i64 0))),(.d (.v (.string ⟨#[]⟩)))] [(0,1,(.c (.d (.v (.int .i64 6))))),(1,1,(.c (.d (.v (.string ⟨#[45]⟩)))))],none⟩,⟨none,.mu ⟨true,[.i .i64,.s]⟩ (.t 11) (.t 23) (.c (.d (.v (.int .i64 3)))),none⟩,⟨(some 24),.mv (.t 11),none⟩,⟨(some 25),.bd [.esl,(.d (.v (.int .i64 0))),(.d (.v (.int .i64 0))),.mnil] [(0,1,(.t 9)),(2,1,(.t 10)),(3,1,(.t 24))],none⟩,⟨(some 26),.bx (.t 25),none⟩,⟨(some 7),.mv (.t 26),none⟩]
def kd11:List (Int × ByteArray × Int):=[(1,⟨#[]⟩,1),(3,⟨#[]⟩,2),(4,⟨#[]⟩,2),(5,⟨#[]⟩,2),(2,⟨#[78,73,76]⟩,2),(2,⟨#[84,82,85,69]⟩,2),(2,⟨#[70,65,76,83,69]⟩,2),(6,⟨#[123]⟩,2),(6,⟨#[40]⟩,2),(6,⟨#[126]⟩,2),(6,⟨#[43]⟩,3),(6,⟨#[45]⟩,3)]
def es11:Es:=(.cons (.agg [.i .i64 (.ofNat 1),.s 0 0]) (.i .i64 (.ofNat 1)) 0 (.cons (.agg [.i .i64 (.ofNat 3),.s 0 0]) (.i .i64 (.ofNat 2)) 1 (.cons (.agg [.i .i64 (.ofNat 4),.s 0 0]) (.i .i64 (.ofNat 2)) 2 (.cons (.agg [.i .i64 (.ofNat 5),.s 0 0]) (.i .i64 (.ofNat 2)) 3 (.cons (.agg [.i .i64 (.ofNat 2),.s 3 4999502]) (.i .i64 (.ofNat 2)) 4 (.cons (.agg [.i .i64 (.ofNat 2),.s 4 1163219540]) (.i .i64 (.ofNat 2)) 5 (.cons (.agg [.i .i64 (.ofNat 2),.s 5 297750249798]) (.i .i64 (.ofNat 2)) 6 (.cons (.agg [.i .i64 (.ofNat 6),.s 1 123]) (.i .i64 (.ofNat 2)) 7 (.cons (.agg [.i .i64 (.ofNat 6),.s 1 40]) (.i .i64 (.ofNat 2)) 8 (.cons (.agg [.i .i64 (.ofNat 6),.s 1 126]) (.i .i64 (.ofNat 2)) 9 (.cons (.agg [.i .i64 (.ofNat 6),.s 1 43]) (.i .i64 (.ofNat 3)) 10 (.cons (.agg [.i .i64 (.ofNat 6),.s 1 45]) (.i .i64 (.ofNat 3)) 11 .nil))))))))))))
abbrev KT11:KT:=⟨true,[.i .i64,.s]⟩
def kv11 (q:Nat):Value:=match kd11[q]? with
 | some (a,s,_)=>.agg #[.int .i64 a,.string s]
 | none=>.agg #[]
def key11 (q:Nat):AV:=match kd11[q]? with
 | some (a,s,_)=>.agg [.d (.v (.int .i64 a)),.d (.v (.string s))]
 | none=>.any
def val11 (q:Nat):AV:=match kd11[q]? with
 | some (_,_,x)=>.d (.v (.int .i64 x))
 | none=>.any
def ent11:List Nat->Nat->List (Value × AV × Nat)
 | [],_=>[]
 | q :: r,b=>(kv11 q,val11 q,b) :: ent11 r (b + 1)
theorem fits11:∀ q,q < 12->keyFits KT11 (kv11 q) = true:=by decide +kernel
theorem inj11:∀ q,q < 12->∀ q',q' < 12->keq (kv11 q) (kv11 q') = true->q = q':=by decide +kernel
theorem ent11_app (q:Nat):∀ (o:List Nat) (b:Nat),ent11 (o ++ [q]) b = ent11 o b ++ [(kv11 q,val11 q,b + o.length)]
 | [],b=>rfl
 | a :: o,b=>by
  show (kv11 a,val11 a,b) :: ent11 (o ++ [q]) (b + 1) = _
  rw [ent11_app q o (b + 1)]; simp [ent11,Nat.add_comm,Nat.add_left_comm]
theorem get11 (k:Value):∀ (o:List Nat) (b:Nat),(mapGet (ent11 o b) k).map (·.1) = (o.find? λq=>keq (kv11 q) k).map val11
 | [],b=>rfl
 | a :: o,b=>by
  have ih:=get11 k o (b + 1); simp only [ent11,mapGet,List.find?_cons]
  cases keq (kv11 a) k with
  | true=>rfl
  | false=>simpa using ih
theorem same11 {k:Value} (hk:keyFits KT11 k = true) {q q':Nat} (hq:q < 12) (hq':q' < 12) (h:keq (kv11 q) k = true) (h':keq (kv11 q') k = true):q = q':=by
 have e1:=(keq_iff (fits11 q hq) hk).1 h; have e2:=(keq_iff (fits11 q' hq') hk).1 h'; refine inj11 q hq q' hq' ?_; rw [e1,e2]; exact (keq_iff hk hk).2 rfl
theorem look11 {o o':List Nat} (ho:∀ q,q ∈ o ↔ q < 12) (ho':∀ q,q ∈ o' ↔ q < 12) (b b':Nat) {k:Value} (hk:keyFits KT11 k = true):(mapGet (ent11 o b) k).map (·.1) = (mapGet (ent11 o' b') k).map (·.1):=by
 rw [get11,get11]
 congr 1
 cases h1:o.find? λq=>keq (kv11 q) k with
 | none =>
  cases h2:o'.find? λq=>keq (kv11 q) k with
  | none=>rfl
  | some q' =>
   have a:=List.find?_some h2; have:=List.find?_eq_none.1 h1 q' ((ho q').2 ((ho' q').1 (List.mem_of_find?_eq_some h2))); exact absurd a this
 | some q =>
  have a:=List.find?_some h1; have hq:=(ho q).1 (List.mem_of_find?_eq_some h1)
  cases h2:o'.find? λq=>keq (kv11 q) k with
  | none=>exact absurd a (List.find?_eq_none.1 h2 q ((ho' q).2 hq))
  | some q' =>
   have a':=List.find?_some h2; rw [same11 hk hq ((ho' q').1 (List.mem_of_find?_eq_some h2)) a a']
theorem none11 {o:List Nat} (ho:∀ q,q ∈ o->q < 12) {q:Nat} (hq:q < 12) (hn:q ∉ o) (b:Nat):mapGet (ent11 o b) (kv11 q) = none:=by
 have h:=get11 (kv11 q) o b; have:o.find? (λq'=>keq (kv11 q') (kv11 q)) = none:=List.find?_eq_none.2 λq' hq' hk=>hn (by rw [<- inj11 q' (ho q' hq') q hq hk]; exact hq')
 rw [this] at h; exact Option.map_eq_none_iff.1 h
def vl11 (a0 a1:AV) (n:Nat):List AV:=[a0,a1,.mp n,key11 0,.tup [],key11 1,.tup [],key11 2,.tup [],key11 3,.tup [],key11 4,.tup [],key11 5,.tup [],key11 6,.tup [],key11 7,.tup [],key11 8,.tup [],key11 9,.tup [],key11 10,.tup [],key11 11,.tup [],.mp n,.agg [a0,.d (.v (.int .i64 0)),a1,.mp n],.ptr (n + 1) 0,.ptr (n + 1) 0]
theorem ok11:drawOk pr11 l11 = true:=by decide +kernel
theorem uniq11:∀ k,k < 31->∀ k',k' < 31->wrOf l11 k = wrOf l11 k'->wrOf l11 k = none\/k = k':=by decide +kernel
theorem wr31 {k t:Nat} (h:wrOf l11 k = some t):k < 31:=by
 rcases Nat.lt_or_ge k 31 with hk | hk
 ·exact hk
 ·have:l11[k]? = none:=List.getElem?_eq_none hk
  simp [wrOf,this] at h
theorem uni11 {k k' t:Nat} (h:wrOf l11 k = some t) (h':wrOf l11 k' = some t):k = k':=by
 rcases uniq11 k (wr31 h) k' (wr31 h') (by rw [h,h']) with h0 | h0
 ·rw [h0] at h; cases h
 ·exact h0
theorem keyOf11:∀ q,q < 12->keyOf (key11 q) = some (kv11 q):=λq hq=>by
 rcases (by omega:q = 0\/q = 1\/q = 2\/q = 3\/q = 4\/q = 5\/q = 6\/q = 7\/q = 8\/q = 9\/q = 10\/q = 11) with h | h | h | h | h | h | h | h | h | h | h | h <;> subst h <;> rfl
theorem shown11:∀ q,q < 12->shown (val11 q) = true:=by decide +kernel
section
variable {P:Program} {hint:Nat->Option Md} {nb:Nat}
theorem lit11_W (hm:P.follows .mixedOrders = true) {Q:APost} {S:List AV} {H:List ABlk} {a0 a1:AV} (hl:27<=S.length) (h0:S.getD 0 .any = a0) (h1:S.getD 1 .any = a1) (s0:shown a0 = true/\cellsAV a0 = [a0]) (s1:shown a1 = true/\cellsAV a1 = [a1])
 (hQ : ∀ (ck : Nat) (o : List Nat), (∀ q, q ∈ o ↔ q < 12) -> ∀ s', s'.length = S.length -> (∀ t, t < 7 \/ t = 8 \/ 27 <= t -> s'.getD t .any = S.getD t .any) -> s'.getD 7 .any = .ptr (H.length + 1) 0 ->
   Q .normal s' (H ++ [.map KT11 ck (ent11 o 0),.cells [a0,.d (.v (.int .i64 0)),a1,.mp H.length]])):W P hint nb (.dreg pr11 l11) S H Q:=by
 obtain ⟨vv,hvv⟩:∃ vv:Nat->AV,vv = λj=>(vl11 a0 a1 H.length).getD j .any:=⟨_,rfl⟩
 obtain ⟨HC,hHC⟩:∃ HC:(Nat->Prop)->List ABlk->Prop,HC = λL H'=>∃ o:List Nat,o.Nodup/\(∀ q,q ∈ o ↔ q < 12/\L (4 + 2 * q)) /\
  ((¬ L 2/\H' = H)\/(L 2/\¬ L 29/\H' = H ++ [.map KT11 o.length (ent11 o 0)])\/(L 2/\L 29/\H' = H ++ [.map KT11 o.length (ent11 o 0),.cells [a0,.d (.v (.int .i64 0)),a1,.mp H.length]])):=⟨_,rfl⟩
 have hlen:l11.length = 31:=rfl
 -- simple operations
 have st0:∀ {L:Nat->Prop} (j:Nat) {i:Ins} {s':List AV} {H':List ABlk},(j ≠ 2/\j ≠ 29/\∀ q,q < 12->j ≠ 4 + 2 * q)->l11[j]? = some i->¬ L j->(∀ k,L k->k < l11.length)->SlI l11 S vv L s'->HC L H'->(∀ G,StepOk P (l11.getD j default) s' G (vv j) G) ->
  wpIns P [i] s' H' (λs'' H''=>SlI l11 S vv (λk=>L k\/k = j) s''/\HC (λk=>L k\/k = j) H''):=λ{L} j {i s' H'} hj2 hj hnj hL hsl hc hst=>by
  have hij:l11.getD j default = i:=by rw [gDd,hj]; rfl
  rw [hij] at hst; refine (hst H').run ⟨hsl.step hj λk t hk h1 h2=>Nat.le_of_eq (uni11 h1 h2),?_⟩; rw [hHC] at hc ⊢; obtain ⟨o,o1,o2,o3⟩:=hc; refine ⟨o,o1,λq=>?_,?_⟩
  ·rw [o2 q]
   exact ⟨λh=>⟨h.1,.inl h.2⟩,λh=>⟨h.1,h.2.resolve_right λe=>hj2.2.2 q h.1 e.symm⟩⟩
  ·have e2:(L 2\/2 = j) ↔ L 2:=⟨λh=>h.resolve_right λe=>hj2.1 e.symm,.inl⟩
   have e29:(L 29\/29 = j) ↔ L 29:=⟨λh=>h.resolve_right λe=>hj2.2.1 e.symm,.inl⟩; simp only [e2,e29]; exact o3
 refine W.dregJ hm (λj hj k hk=>draw_pred ok11 hj hk) (λL s' H'=>SlI l11 S vv L s'/\HC L H')
  ⟨⟨rfl,λt ht=>.inr ⟨λ_ h=>h.elim,rfl⟩⟩,by rw [hHC]; exact ⟨[],List.nodup_nil,λq=>⟨λh=>absurd h List.not_mem_nil,λh=>h.2.elim⟩,.inl ⟨λh=>h,rfl⟩⟩⟩ ?_ ?_
 ·rintro L j i s' H' hL hdc hj hnj hpj ⟨hsl,hc⟩
  have hjl:j < 31:=(List.getElem?_eq_some_iff.1 hj).1; have hv:∀ {t k:Nat},t < 27->L k->wrOf l11 k = some t->s'.getD t .any = vv k:=λ{t k} ht hk hw=>by
   rcases hsl.2 t (by omega) with ⟨k',a1,a2,a3,a4⟩ | ⟨a1,a2⟩
   ·rw [a4,uni11 a2 hw]
   ·exact absurd hw (a1 k hk)
  have ho:∀ {t:Nat},t < 27->(∀ k,k < 31->wrOf l11 k ≠ some t)->s'.getD t .any = S.getD t .any:=λ{t} ht hw=>by
   rcases hsl.2 t (by omega) with ⟨k',a1,a2,a3,a4⟩ | ⟨a1,a2⟩
   ·exact absurd a2 (hw k' (wr31 a2))
   ·exact a2
  have stM:l11[2]? = some i->¬ L 2->(∀ i,L i->∀ k ∈ pr11.getD i [],L k)->SlI l11 S vv L s'->HC L H'->wpIns P [i] s' H' (λs'' H''=>SlI l11 S vv (λk=>L k\/k = 2) s''/\HC (λk=>L k\/k = 2) H''):=λhj hn hdc hsl hc=>by
   have hsl':=hsl.step hj λk t hk h1 h2=>Nat.le_of_eq (uni11 h1 h2)
   rw [hHC] at hc ⊢; obtain ⟨o,o1,o2,o3⟩:=hc; have hno:∀ q,q < 12->¬ L (4 + 2 * q):=λq hq h=>hn (hdc _ h 2 (by
    rcases (by omega:q = 0\/q = 1\/q = 2\/q = 3\/q = 4\/q = 5\/q = 6\/q = 7\/q = 8\/q = 9\/q = 10\/q = 11) with h | h | h | h | h | h | h | h | h | h | h | h <;> subst h <;> decide))
   have ho0:o = []:=List.eq_nil_iff_forall_not_mem.2 λq hq=>hno q ((o2 q).1 hq).1 ((o2 q).1 hq).2
   subst ho0; have hn29:¬ L 29:=λh=>hn (by
    have h28:=hdc 29 h 28 (by decide); have h27:=hdc 28 h28 27 (by decide); exact hdc 27 h27 2 (by decide))
   rcases o3 with ⟨_,rfl⟩ | ⟨h,_⟩ | ⟨h,_⟩
   ·have hi:i = ⟨some 11,.mkm KT11,none⟩:=(Option.some.inj hj).symm
    subst hi; refine StepOk.run (v:=vv 2) (G':=H' ++ [.map KT11 0 []]) (by rw [hvv]; rfl) ⟨hsl',[],List.nodup_nil,λq=>⟨λh=>absurd h List.not_mem_nil,λh=>h.2.elim (λh'=>absurd h' (hno q h.1)) (λh'=>by omega)⟩,.inr (.inl ⟨.inr rfl,λh=>h.elim hn29 (λh=>by cases h),rfl⟩)⟩
   ·exact absurd h hn
   ·exact absurd h hn
  have stU:∀ (j q:Nat),j = 4 + 2 * q->q < 12->l11[j]? = some ⟨none,.mu KT11 (.t 11) (.t (12 + q)) (.c (val11 q)),none⟩->l11[j]? = some i->¬ L j->(∀ i,L i->∀ k ∈ pr11.getD i [],L k)->(∀ k ∈ pr11.getD j [],L k)->SlI l11 S vv L s'->HC L H' ->
   wpIns P [i] s' H' (λs'' H''=>SlI l11 S vv (λk=>L k\/k = j) s''/\HC (λk=>L k\/k = j) H''):=λj q hjq hq hj0 hj hn hdc hpj hsl hc=>by
   have hsl':=hsl.step hj λk t hk h1 h2=>Nat.le_of_eq (uni11 h1 h2)
   rw [hj0] at hj
   cases hj
   have hp2:L 2/\L (3 + 2 * q):=by
    rcases (by omega:q = 0\/q = 1\/q = 2\/q = 3\/q = 4\/q = 5\/q = 6\/q = 7\/q = 8\/q = 9\/q = 10\/q = 11) with h | h | h | h | h | h | h | h | h | h | h | h <;> subst h <;> subst hjq <;> exact ⟨hpj _ (by decide),hpj _ (by decide)⟩
   have hw3:wrOf l11 (3 + 2 * q) = some (12 + q)/\vv (3 + 2 * q) = key11 q/\vv j = .tup []:=by
    rw [hvv]; rcases (by omega:q = 0\/q = 1\/q = 2\/q = 3\/q = 4\/q = 5\/q = 6\/q = 7\/q = 8\/q = 9\/q = 10\/q = 11) with h | h | h | h | h | h | h | h | h | h | h | h <;> subst h <;> subst hjq <;> exact ⟨rfl,rfl,rfl⟩
   have g11:get s' (.t 11) = .mp H.length:=by
    have:get s' (.t 11) = vv 2:=hv (t:=11) (k:=2) (by omega) hp2.1 rfl; rw [this,hvv]; rfl
   have gk:get s' (.t (12 + q)) = key11 q:=by
    have:get s' (.t (12 + q)) = vv (3 + 2 * q):=hv (by omega) hp2.2 hw3.1; rw [this,hw3.2.1]
   rw [hHC] at hc ⊢; obtain ⟨o,o1,o2,o3⟩:=hc; have hqo:q ∉ o:=λh=>hn (by rw [hjq]; exact ((o2 q).1 h).2)
   have hn29:¬ L 29:=λh=>hn (by
    have h28:=hdc 29 h 28 (by decide); have h27:=hdc 28 h28 27 (by decide); have:j ∈ pr11.getD 27 []:=by
     rcases (by omega:q = 0\/q = 1\/q = 2\/q = 3\/q = 4\/q = 5\/q = 6\/q = 7\/q = 8\/q = 9\/q = 10\/q = 11) with h | h | h | h | h | h | h | h | h | h | h | h <;> subst h <;> subst hjq <;> decide
    exact hdc 27 h27 j this)
   rcases o3 with ⟨h,_⟩ | ⟨_,_,rfl⟩ | ⟨_,h,_⟩
   ·exact absurd hp2.1 h
   ·refine StepOk.run (v:=vv j) (G':=H ++ [.map KT11 (o ++ [q]).length (ent11 (o ++ [q]) 0)]) ?_ ⟨hsl',o ++ [q],?_,λq'=>?_,.inr (.inl ⟨.inl hp2.1,λh=>h.elim hn29 (λh=>by omega),rfl⟩)⟩
    ·rw [hw3.2.2]
     have hb:(H ++ [ABlk.map KT11 o.length (ent11 o 0)])[H.length]? = some (.map KT11 o.length (ent11 o 0)):=by simp
     have hput:mapPut o.length (ent11 o 0) (kv11 q) (val11 q) = (o.length + 1,ent11 o 0 ++ [(kv11 q,val11 q,o.length)]):=by
      simp only [mapPut,none11 (λq' h=>((o2 q').1 h).1) hq hqo]
     show evK (.mu KT11 (.t 11) (.t (12 + q)) (.c (val11 q))) s' _ = _
     simp only [evK,g11,gk,keyOf11 q hq,fits11 q hq,show get s' (.c (val11 q)) = val11 q from rfl,shown11 q hq,hb,hput,if_true,and_self,ent11_app,Nat.zero_add,List.length_append,List.length_singleton]
     simp
    ·rw [List.nodup_append]
     refine ⟨o1,by simp,λa ha b hb e=>?_⟩; obtain rfl:b = q:=by simpa using hb
     exact hqo (e ▸ ha)
    ·rw [List.mem_append,o2 q',List.mem_singleton]
     constructor
     ·rintro (h | h)
      ·exact ⟨h.1,.inl h.2⟩
      ·subst h; exact ⟨hq,.inr hjq.symm⟩
     ·rintro ⟨h,h' | h'⟩
      ·exact .inl ⟨h,h'⟩
      ·exact .inr (by omega)
   ·exact absurd h hn29
  have stB:l11[29]? = some i->¬ L 29->(∀ i,L i->∀ k ∈ pr11.getD i [],L k)->(∀ k ∈ pr11.getD 29 [],L k)->SlI l11 S vv L s'->HC L H'->wpIns P [i] s' H' (λs'' H''=>SlI l11 S vv (λk=>L k\/k = 29) s''/\HC (λk=>L k\/k = 29) H''):=λhj hn hdc hpj hsl hc=>by
   have hsl':=hsl.step hj λk t hk h1 h2=>Nat.le_of_eq (uni11 h1 h2)
   have hi:i = ⟨some 26,.bx (.t 25),none⟩:=(Option.some.inj hj).symm; subst hi; have h28:L 28:=hpj 28 (by decide); have h2:L 2:=hdc 27 (hdc 28 h28 27 (by decide)) 2 (by decide); have g25:get s' (.t 25) = .agg [a0,.d (.v (.int .i64 0)),a1,.mp H.length]:=by
    have:get s' (.t 25) = vv 28:=hv (t:=25) (k:=28) (by omega) h28 rfl; rw [this,hvv]; rfl
   rw [hHC] at hc ⊢; obtain ⟨o,o1,o2,o3⟩:=hc; rcases o3 with ⟨h,_⟩ | ⟨_,_,rfl⟩ | ⟨_,h,_⟩
   ·exact absurd h2 h
   ·refine StepOk.run (v:=vv 29) (G':=H ++ [.map KT11 o.length (ent11 o 0),.cells [a0,.d (.v (.int .i64 0)),a1,.mp H.length]]) ?_ ⟨hsl',o,o1,λq'=>?_,.inr (.inr ⟨.inl h2,.inr rfl,rfl⟩)⟩
    ·show evK (.bx (.t 25)) s' _ = _
     simp only [evK,g25,hvv]; simp [shown,cellsAV,vl11]
    ·rw [o2 q']
     exact ⟨λh=>⟨h.1,.inl h.2⟩,λh=>⟨h.1,h.2.resolve_right λe=>by omega⟩⟩
   ·exact absurd h hn
  subst hvv; rcases (by omega:j = 0\/j = 1\/j = 2\/j = 3\/j = 4\/j = 5\/j = 6\/j = 7\/j = 8\/j = 9\/j = 10\/j = 11\/j = 12\/j = 13\/j = 14\/j = 15\/j = 16\/j = 17\/j = 18\/j = 19\/j = 20\/j = 21\/j = 22\/j = 23\/j = 24\/j = 25\/j = 26\/j = 27\/j = 28\/j = 29\/j = 30) with rfl | rfl | rfl | rfl | rfl | rfl | rfl | rfl | rfl | rfl | rfl | rfl | rfl | rfl | rfl | rfl | rfl | rfl | rfl | rfl | rfl | rfl | rfl | rfl | rfl | rfl | rfl | rfl | rfl | rfl | rfl
  ·exact st0 0 (by decide) hj hnj hL hsl hc (λG=>by show evK (.mv (.t 0)) s' G = _; simp only [evK,get,ho (t:=0) (by omega) (by decide),h0]; rfl)
  ·exact st0 1 (by decide) hj hnj hL hsl hc (λG=>by show evK (.mv (.t 1)) s' G = _; simp only [evK,get,ho (t:=1) (by omega) (by decide),h1]; rfl)
  ·exact stM hj hnj hdc hsl hc
  ·exact st0 3 (by decide) hj hnj hL hsl hc (λG=>rfl)
  ·exact stU 4 0 (by decide) (by decide) rfl hj hnj hdc hpj hsl hc
  ·exact st0 5 (by decide) hj hnj hL hsl hc (λG=>rfl)
  ·exact stU 6 1 (by decide) (by decide) rfl hj hnj hdc hpj hsl hc
  ·exact st0 7 (by decide) hj hnj hL hsl hc (λG=>rfl)
  ·exact stU 8 2 (by decide) (by decide) rfl hj hnj hdc hpj hsl hc
  ·exact st0 9 (by decide) hj hnj hL hsl hc (λG=>rfl)
  ·exact stU 10 3 (by decide) (by decide) rfl hj hnj hdc hpj hsl hc
  ·exact st0 11 (by decide) hj hnj hL hsl hc (λG=>rfl)
  ·exact stU 12 4 (by decide) (by decide) rfl hj hnj hdc hpj hsl hc
  ·exact st0 13 (by decide) hj hnj hL hsl hc (λG=>rfl)
  ·exact stU 14 5 (by decide) (by decide) rfl hj hnj hdc hpj hsl hc
  ·exact st0 15 (by decide) hj hnj hL hsl hc (λG=>rfl)
  ·exact stU 16 6 (by decide) (by decide) rfl hj hnj hdc hpj hsl hc
  ·exact st0 17 (by decide) hj hnj hL hsl hc (λG=>rfl)
  ·exact stU 18 7 (by decide) (by decide) rfl hj hnj hdc hpj hsl hc
  ·exact st0 19 (by decide) hj hnj hL hsl hc (λG=>rfl)
  ·exact stU 20 8 (by decide) (by decide) rfl hj hnj hdc hpj hsl hc
  ·exact st0 21 (by decide) hj hnj hL hsl hc (λG=>rfl)
  ·exact stU 22 9 (by decide) (by decide) rfl hj hnj hdc hpj hsl hc
  ·exact st0 23 (by decide) hj hnj hL hsl hc (λG=>rfl)
  ·exact stU 24 10 (by decide) (by decide) rfl hj hnj hdc hpj hsl hc
  ·exact st0 25 (by decide) hj hnj hL hsl hc (λG=>rfl)
  ·exact stU 26 11 (by decide) (by decide) rfl hj hnj hdc hpj hsl hc
  ·exact st0 27 (by decide) hj hnj hL hsl hc (λG=>by show evK (.mv (.t 11)) s' G = _; simp only [evK,get,hv (t:=11) (k:=2) (by omega) (hpj 2 (by decide)) rfl]; rfl)
  ·exact st0 28 (by decide) hj hnj hL hsl hc (fun G => by
    show evK (.bd _ _) s' G = _
    simp only [evK,get,List.map_cons,List.map_nil,hv (t:=9) (k:=0) (by omega) (hpj 0 (by decide)) rfl,hv (t:=10) (k:=1) (by omega) (hpj 1 (by decide)) rfl,hv (t:=24) (k:=27) (by omega) (hpj 27 (by decide)) rfl]; simp only [vl11,List.getD_cons_zero,List.getD_cons_succ,fillA,s0.1,s0.2,s1.1,s1.2,List.length_singleton]
    rfl)
  ·exact stB hj hnj hdc hpj hsl hc
  ·exact st0 30 (by decide) hj hnj hL hsl hc (λG=>by show evK (.mv (.t 26)) s' G = _; simp only [evK,get,hv (t:=26) (k:=29) (by omega) (hpj 29 (by decide)) rfl]; rfl)
 ·rintro s' H' ⟨hsl,hc⟩
  rw [hHC] at hc; obtain ⟨o,o1,o2,o3⟩:=hc; rcases o3 with ⟨h,_⟩ | ⟨_,h,_⟩ | ⟨_,_,rfl⟩
  ·exact absurd (by rw [hlen]; omega) h
  ·exact absurd (by rw [hlen]; omega) h
  ·refine hQ _ o (λq=>by rw [o2 q,hlen]; omega) s' hsl.1 (λt ht=>?_) ?_
   ·by_cases htl:t < S.length
    ·rcases hsl.2 t htl with ⟨k,a1,a2,a3,a4⟩ | ⟨a1,a2⟩
     ·have : ∀ k, k < 31 -> ∀ t, wrOf l11 k = some t -> ¬ (t < 7 \/ t = 8 \/ 27 <= t) := by
       intro k hk t hw
       have hd:∀ k,k < 31->(match wrOf l11 k with | some t=>!(Nat.blt t 7 || t == 8 || Nat.ble 27 t) | none=>true) = true:=by decide +kernel
       have:=hd k hk; rw [hw] at this
       intro h
       rcases h with h | h | h
       ·simp [Nat.blt,Nat.ble_eq_true_of_le (show t + 1<=7 from h)] at this
       ·simp [h] at this
       ·simp [Nat.ble_eq_true_of_le h] at this
      exact absurd ht (this k (wr31 a2) t a2)
     ·exact a2
    ·rw [gDd,gDd,List.getElem?_eq_none (by rw [hsl.1]; omega),List.getElem?_eq_none (by omega)]
   ·rcases hsl.2 7 (by omega) with ⟨k,a1,a2,a3,a4⟩ | ⟨a1,a2⟩
    ·have:k = 30:=uni11 a2 (show wrOf l11 30 = some 7 from rfl)
     subst this; rw [a4,hvv]; rfl
    ·exact absurd (show wrOf l11 30 = some 7 from rfl) (a1 30 (by rw [hlen]; omega))
end
end
noncomputable section
def newBX (h:Hp) (x:FB) (k:Pth->Hp->FX):FX:=
 onHp h λt n lg=>Bool.rec (motive:=λ_=>FX) .no (k (pth n) (.mk (hset x (pth n) t) (Nat.succ n) lg)) (Nat.blt n 32768)
def anyL (l:List Nat) (s:Fr):Fr:=List.rec (motive:=λ_=>Fr) s (λn _ ih=>slotS n .any ih) l
def isMf (x:FB):Bool:=FB.rec (motive:=λ_=>Bool) false (λ_ _ _ _=>false) (λ_ _ _=>false) (λ_ _ _=>false) (λ_ _=>true) x
def noMf (p:Pth) (t:HT) (n:Nat):Bool:=Nat.rec (motive:=λ_=>Bool) true (λm ih=>bif' (isMf (hget (pth m) t)) (bif' (Nat.beq (num p) m) ih false) ih) n
def l926:List Nat:=[9,10,11,12,13,14,15,16,17,18,19,20,21,22,23,24,25,26]
def k11 (F:FC') (okf:Nat->Bool) (lp:Nat) (cr:FC) (t:Fr) (h:Hp):FX:=
 bif' (cellB (slot 0 t)) (bif' (cellB (slot 1 t)) (newBX h (.mf KT11 es11) λp h=>newBX h (.c 4 [slot 0 t,.i .i64 (.ofNat 0),slot 1 t,.mp p] .any) λq h =>
  onX3 (λe s h=>onHp h λtt n lg=>bif' (noMf p tt n) (.ok e s (.mk (hset .dead p tt) n lg)) .no) (fA F okf lp cr (slotS 7 (.ptr q 0) (anyL l926 t)) h)) .no) .no
theorem newBX_ok {h:Hp} {x:FB} {k:Pth->Hp->FX} {e:FE} {t':Fr} {h':Hp} (hx:newBX h x k = .ok e t' h'):∃ p h1,num p = h.n/\h1.lg = h.lg/\k p h1 = .ok e t' h' /\
 ∀ {H:List ABlk} {blk:ABlk},HpR h H->BkR x blk->HpR h1 (H ++ [blk]):=by
 obtain ⟨t,n,lg⟩:=h; have hx:Bool.rec (motive:=λ_=>FX) .no (k (pth n) (.mk (hset x (pth n) t) (Nat.succ n) lg)) (Nat.blt n 32768) = .ok e t' h':=hx
 cases hb:Nat.blt n 32768 with
 | false=>rw [hb] at hx; cases hx
 | true =>
  rw [hb] at hx; have hn:=blt_iff.1 hb; refine ⟨pth n,.mk (hset x (pth n) t) (Nat.succ n) lg,num_pth hn,rfl,hx,λ{H blk} hr hB=>?_⟩; have e0:newB (.mk t n lg) x (λp h=>.ok (.ptr p 0) h) = .ok (.ptr (pth n) 0) (.mk (hset x (pth n) t) (Nat.succ n) lg):=by
   show Bool.rec (motive:=λ_=>FR) .no (.ok (.ptr (pth n) 0) (.mk (hset x (pth n) t) (Nat.succ n) lg)) (Nat.blt n 32768) = _
   rw [hb]
  obtain ⟨q',h1',_,y2,_,y4⟩:=newB_ok hr e0 hB
  cases y4
  exact y2
theorem noMf_ok {p:Pth} {t:HT}:∀ {n:Nat},noMf p t n = true->∀ m,m < n->m ≠ num p->isMf (hget (pth m) t) = false
 | 0,_,m,hm,_=>absurd hm (Nat.not_lt_zero m)
 | n + 1,h,m,hm,hne=>by
  have h:bif' (isMf (hget (pth n) t)) (bif' (Nat.beq (num p) n) (noMf p t n) false) (noMf p t n) = true:=h; have hrest:noMf p t n = true/\(n ≠ num p->isMf (hget (pth n) t) = false):=by
   cases hq:isMf (hget (pth n) t) with
   | false=>rw [hq] at h; exact ⟨h,λ_=>rfl⟩
   | true =>
    rw [hq] at h; obtain ⟨h1,h2⟩:=bifT (show bif' (Nat.beq (num p) n) (noMf p t n) false = true from h); exact ⟨h2,λhn=>absurd (Nat.eq_of_beq_eq_true h1).symm hn⟩
  rcases Nat.lt_succ_iff_lt_or_eq.1 hm with hm | hm
  ·exact noMf_ok hrest.1 m hm hne
  ·subst hm; exact hrest.2 hne
theorem EsR_uniq {es:Es} {l:List (Value × AV × Nat)} (h:EsR es l):∀ {l':List (Value × AV × Nat)},EsR es l'->l = l':=by
 induction h with
 | nil=>intro l' h; cases h; rfl
 | cons h1 h2 h3 ih =>
  intro l' h
  cases h with
  | cons h4 h5 h6 =>
   rw [h2] at h5
   cases h5
   rw [ih h6]
theorem BkR_uniq {x:FB} {k k':ABlk} (hd:x ≠ .dead) (hm:isMf x = false) (h:BkR x k) (h':BkR x k'):k = k':=by
 cases x with
 | dead=>exact absurd rfl hd
 | mf=>cases hm
 | it p s l a=>rw [show k = _ from h,show k' = _ from h']
 | c n cs z=>rw [show k = _ from h,show k' = _ from h']
 | m kt ck es =>
  obtain ⟨l,rfl,e1⟩:=h; obtain ⟨l',rfl,e2⟩:=h'; rw [EsR_uniq e1 e2]
def anyA (l:List Nat) (S:List AV):List AV:=List.rec (motive:=λ_=>List AV) S (λn _ ih=>setO ih (some n) .any) l
theorem anyA_len (S:List AV):∀ (l:List Nat),(anyA l S).length = S.length
 | []=>rfl
 | n :: l=>by show (setO (anyA l S) (some n) .any).length = _; rw [setO_length,anyA_len S l]
theorem anyA_get (S:List AV):∀ (l:List Nat) (i:Nat),i < S.length->(anyA l S).getD i .any = if i ∈ l then .any else S.getD i .any
 | [],i,_=>by rw [if_neg List.not_mem_nil]; rfl
 | n :: l,i,hi=>by
  show (setO (anyA l S) (some n) .any).getD i .any = _
  rw [setO_getD (by rw [anyA_len]; exact hi),anyA_get S l i hi]
  by_cases h:n = i
  ·subst h; simp
  ·have:¬ (some n = some i):=λe=>h (Option.some.inj e)
   rw [if_neg this]; simp [Ne.symm h]
theorem anyL_ok {t:Fr} {S:List AV} (hf:FrR t S):∀ {l:List Nat},(∀ n ∈ l,n < 512)->FrR (anyL l t) (anyA l S)
 | [],_=>hf
 | n :: l,h=>(anyL_ok hf λm hm=>h m (List.mem_cons_of_mem _ hm)).set (h n List.mem_cons_self) .any
theorem es11_ok:EsR es11 (ent11 (List.range 12) 0):=by
 have key:∀ (a:Nat) (l c:Nat),keyP (.agg [.i .i64 (.ofNat a),.s l c]):=λa l c=>.inr ⟨_,rfl,λx hx=>by
  rcases List.mem_cons.1 hx with rfl | hx
  ·exact .inr (.inl ⟨_,_,rfl⟩)
  ·obtain rfl:=List.mem_singleton.1 hx
   exact .inr (.inr ⟨_,_,rfl⟩)⟩
 unfold es11
 refine .cons (key _ _ _) ?_ (.cons (key _ _ _) ?_ (.cons (key _ _ _) ?_ (.cons (key _ _ _) ?_ (.cons (key _ _ _) ?_ (.cons (key _ _ _) ?_ (.cons (key _ _ _) ?_ (.cons (key _ _ _) ?_ (.cons (key _ _ _) ?_ (.cons (key _ _ _) ?_ (.cons (key _ _ _) ?_ (.cons (key _ _ _) ?_ .nil))))))))))) <;> rfl
section
variable {P:Program} {F:FC'} {okf:Nat->Bool} {hint:Nat->Option Md} {nb:Nat}
theorem W.post {ac:AC} {s:List AV} {H:List ABlk} {Q:APost} (h:W P hint nb ac s H (λe s' H'=>∃ s0 H0,Wk nb s' H' s0 H0/\Q e s0 H0)):W P hint nb ac s H Q:=λc hc σ a w h1 h2 =>
 wp_mono (h c hc σ a w h1 h2) λe a' w' k=>by
  obtain ⟨σ',s',H',x1,x2,x3,s0,H0,hk,hQ⟩:=k; obtain ⟨σ2,y1,y2,y3⟩:=hk a' σ' w' x2 x3; exact ⟨σ2,s0,H0,x1.trans y1,y2,y3,hQ⟩
theorem k11_ok (hF:FOk P F) (hok:∀ f,okf f = true->callOk P f = true) (hD:RegOk P hint nb F okf) (hm:P.follows .mixedOrders = true) {lp n:Nat} {ac1:AC} {t:Fr} {S:List AV} {h:Hp} {H:List ABlk} {e:FE} {t':Fr} {h':Hp}
 (ho:okA n ac1 = true) (hn:n<=S.length) (h27:27<=S.length) (hf:FrR t S) (hr:HpR h H) (hx:k11 F okf lp (fc ac1) t h = .ok e t' h'):ResC P hint nb (.seq (.dreg pr11 l11) ac1) S h H e t' h':=by
 unfold k11 at hx
 obtain ⟨c0,x1⟩:=bifX hx; obtain ⟨c1,x2⟩:=bifX x1; obtain ⟨p,h1,p1,p2,x3,p4⟩:=newBX_ok x2; obtain ⟨q,h2,q1,q2,x4,q4⟩:=newBX_ok x3; obtain ⟨e3,t3,h3,x5,x6⟩:=onX3_ok x4
 cases h3 with
 | mk tt n3 lg3 =>
 obtain ⟨cm,x7⟩:=bifX (c:=noMf p tt n3) (a:=FX.ok e3 t3 (.mk (hset .dead p tt) n3 lg3)) x6
 cases x7
 have hpn:num p = H.length:=by rw [p1]; exact hr.n
 have a0:=hf.at' 0 (by omega); have a1:=hf.at' 1 (by omega); have s0:=one_cells (cellB_one c0); have s1:=one_cells (cellB_one c1); have hS:=hf.len
 -- the heaps behind the literal
 have hH:∀ (ck:Nat) (o:List Nat),(∀ q,q ∈ o ↔ q < 12)->HpR h2 (H ++ [.map KT11 ck (ent11 o 0),.cells [toA (slot 0 t),.d (.v (.int .i64 0)),toA (slot 1 t),.mp H.length]]):=λck o ho=>by
  have b1:=p4 hr (blk:=.map KT11 ck (ent11 o 0)) ⟨ck,_,_,rfl,es11_ok,λkv hk=>look11 ho (λq=>List.mem_range) 0 0 hk⟩; have b2:=q4 b1 (blk:=.cells [toA (slot 0 t),.d (.v (.int .i64 0)),toA (slot 1 t),.mp H.length]) (by
   show ABlk.cells _ = .cells (padL .any 4 [slot 0 t,.i .i64 (.ofNat 0),slot 1 t,.mp p])
   rw [padL_full (n:=4) (l:=[slot 0 t,.i .i64 (.ofNat 0),slot 1 t,.mp p]) rfl]; simp only [toAs,toA,hpn]
   rfl)
  rwa [List.append_assoc] at b2
 have hqn:num q = H.length + 1:=by
  have:=(p4 hr (blk:=.map KT11 12 (ent11 (List.range 12) 0)) ⟨12,_,_,rfl,es11_ok,λkv hk=>rfl⟩).n; rw [q1,this]; simp
 have f0:FrR (slotS 7 (.ptr q 0) (anyL l926 t)) (setO (anyA l926 S) (some 7) (.ptr (num q) 0)):=(anyL_ok hf (by decide)).set (by omega) (.ptr q 0)
 generalize hSS:setO (anyA l926 S) (some 7) (AV.ptr (num q) 0) = S2 at f0
 have hS2l:S2.length = S.length:=by rw [<- hSS,setO_length,anyA_len]
 have run:=λ(ck:Nat) (o:List Nat) (hoo:∀ q,q ∈ o ↔ q < 12)=>fA_ok (P:=P) (hint:=hint) (nb:=nb) hF hok hD ho (by rw [hS2l]; exact hn) f0 (hH ck o hoo) x5
 obtain ⟨pre,S30,H30,r1,r2,r3,r4,r5⟩:=run 12 (List.range 12) (λq=>List.mem_range); have hn3:n3 = H30.length:=r1.n; have hlg:lg3.ns = pre ++ h.lg.ns:=by have:=r2.log; rw [q2,p2] at this; exact this
 -- what is forgotten
 obtain ⟨U,hU⟩:∃ U:List Nat,∀ b,b ∈ U ↔ (b < n3/\(b = num p\/(hget (pth b) tt = .dead/\(b ∈ pre\/H.length<=b)))):=by
  classical
  exact ⟨(List.range n3).filter λb=>decide (b = num p\/(hget (pth b) tt = .dead/\(b ∈ pre\/H.length<=b))),λb=>by simp [List.mem_filter]⟩
 have hp3:num p < n3:=by
  have:=r2.len; rw [hn3,hpn]; simp at this; omega
 refine ⟨pre,S30,kill U H30,⟨by rw [kill_length]; exact r1.n,r1.lt,λb k hb=>?_,λp' hp'=>?_⟩,⟨?_,hlg,λb hb=>?_,λb hb hnb=>?_,λb hb hl=>?_⟩,r3,r4.trans hS2l,λQ hQ=>?_⟩
 ·show BkR (hget (pth b) (hset .dead p tt)) k
  by_cases hbp:pth b = p
  ·rw [hbp,hget_set]; trivial
  ·rw [hget_ne hbp]
   rw [kill_get] at hb
   split at hb
   ·rename_i hm
    rcases ((hU b).1 hm.1).2 with h | ⟨h,_⟩
    ·exact absurd (by rw [h,pth_num]) hbp
    ·rw [h]; trivial
   ·exact r1.at' b k hb
 ·show hget p' (hset .dead p tt) = .dead
  rw [kill_length] at hp'
  by_cases e:p' = p
  ·subst e; rw [hget_set]
  ·rw [hget_ne e]; exact r1.out p' hp'
 ·rw [kill_length]; have:=r2.len; simp at this; omega
 ·rw [kill_length]; exact r2.lt b hb
 ·rw [kill_out _ _ λhm=>?_,r2.fr b (by simp; omega) hnb,List.getElem?_append_left hb]
  rcases ((hU b).1 hm).2 with h | ⟨_,h | h⟩
  ·omega
  ·exact hnb h
  ·omega
 ·have:=r2.live b hb (by simp; omega)
  rwa [List.getElem?_append_left hl] at this
 ·refine W.seq (lit11_W hm h27 (by rw [a0]) (by rw [a1]) s0 s1 λck o hoo s' hs1 hs2 hs3=>?_)
  show W P hint nb ac1 s' _ Q
  obtain ⟨pre',S3,H3,u1,u2,u3,u4,u5⟩:=run ck o hoo; have hSe:S3 = S30:=by
   refine List.ext_getElem? λi=>?_
   by_cases hi:i < S3.length
   ·have hi':i < S30.length:=by rw [r4,<- u4]; exact hi
    have e1:=u3.at' i hi; have e2:=r3.at' i hi'; simp only [gDd,gEe hi,gEe hi',Option.getD_some] at e1 e2; rw [gEe hi,gEe hi',e1,e2]
   ·rw [List.getElem?_eq_none (by omega),List.getElem?_eq_none (by rw [r4,<- u4]; omega)]
  have hlen:H3.length = H30.length:=by rw [<- show n3 = H3.length from u1.n]; exact hn3
  have hpre:∀ b,b ∈ pre' ↔ b ∈ pre:=λb=>by
   have e1:lg3.ns = pre' ++ h2.lg.ns:=u2.log; have e2:lg3.ns = pre ++ h2.lg.ns:=r2.log; rw [List.append_cancel_right (e1.symm.trans e2)]
  have hHe:kill U H3 = kill U H30:=by
   refine List.ext_getElem? λb=>?_
   rw [kill_get,kill_get,hlen]
   by_cases hm:b ∈ U/\b < H30.length
   ·rw [if_pos hm,if_pos hm]
   ·rw [if_neg hm,if_neg hm]
    by_cases hb:b < H30.length
    ·have hbU:b ∉ U:=λh=>hm ⟨h,hb⟩
     have hbp:b ≠ num p:=λh=>hbU ((hU b).2 ⟨by omega,.inl h⟩)
     by_cases hold:b < H.length/\b ∉ pre
     ·rw [r2.fr b (by simp; omega) hold.2,u2.fr b (by simp; omega) (λh=>hold.2 ((hpre b).1 h)),List.getElem?_append_left hold.1,List.getElem?_append_left hold.1]
     ·have hdd : hget (pth b) tt ≠ .dead := fun h => hbU ((hU b).2 ⟨by omega, .inr ⟨h, by
       by_cases hbp:b ∈ pre
       ·exact .inl hbp
       ·exact .inr (by
         rcases Nat.lt_or_ge b H.length with h | h
         ·exact absurd ⟨h,hbp⟩ hold
         ·exact h)⟩⟩)
      have hb3:b < H3.length:=by omega
      have e1:=u1.at' b _ (gEe hb3); have e2:=r1.at' b _ (gEe hb); rw [gEe hb3,gEe hb,BkR_uniq hdd (noMf_ok cm b (by omega) hbp) e1 e2]
    ·rw [List.getElem?_eq_none (by omega),List.getElem?_eq_none (by omega)]
  refine W.weak (s0:=S2) (Wk.slots (WkL.of (hs1.trans hS2l.symm) λi hi=>?_)) (W.post (u5 _ ⟨S30,kill U H30,by rw [<- hHe,<- hSe]; exact Wk.killed U,hQ⟩)); have hi:i < S.length:=by rw [<- hS2l]; exact hi
  rw [<- hSS,setO_getD (by rw [anyA_len]; exact hi),anyA_get S l926 i hi]
  by_cases h7:i = 7
  ·subst h7
   rw [if_pos rfl,hs3,hqn]; exact .rfl _
  ·rw [if_neg λh=>h7 (Option.some.inj h).symm]
   by_cases hmem:i ∈ l926
   ·rw [if_pos hmem]; exact .any _
   ·rw [if_neg hmem, hs2 i (by
     have:¬ (9<=i/\i<=26):=λh=>hmem (by
      rcases (by omega:i = 9\/i = 10\/i = 11\/i = 12\/i = 13\/i = 14\/i = 15\/i = 16\/i = 17\/i = 18\/i = 19\/i = 20\/i = 21\/i = 22\/i = 23\/i = 24\/i = 25\/i = 26) with h | h | h | h | h | h | h | h | h | h | h | h | h | h | h | h | h | h <;> subst h <;> decide)
     omega)]
    exact .rfl _
end
end
theorem idle26 (ar:Array Value) (w:World) (h:ar.size = 3):CallsD Tryz.prog 26 ar .returning w λe u' w'=>e = .returned (.tuple #[])/\u' = .returning/\w' = w:=by
 obtain ⟨a,b,c,rfl⟩:∃ a b c,ar = #[a,b,c]:=⟨ar[0],ar[1],ar[2],by
  apply Array.ext
  ·simp [h]
  ·intro i h1 h2
   simp at h2; rcases (by omega:i = 0\/i = 1\/i = 2) with rfl | rfl | rfl <;> rfl⟩
 refine callsD_of_wpS Tryz.func26 rfl λc₀ cs hu=>?_
 apply wpS_seq
 apply wpS_region
 simp [wpOpsS,go_sem,recoverD,hu,Tryz.ntmps26,Exit.thenS]; refine wpS_of_wp (wp_block (wp_seq ?_))
 apply wp_region
 simp [wpOps,go_sem,Tryz.underlying20,Exit.then]; refine .inl (wp_cond (t:=true) ?_ ?_)
 ·simp [Act.eval,Array.replicate]
 simp only [if_true]
 apply wp_region
 simp [wpOps,go_sem,Exit.inBlock,bodyPostS,results,Tryz.results26]; refine .inl ?_
 cases c₀
 simp_all
theorem idle71 (ar:Array Value) (w:World) (h:ar.size = 2):CallsD Tryz.prog 71 ar .returning w λe u' w'=>e = .returned (.tuple #[])/\u' = .returning/\w' = w:=by
 obtain ⟨a,b,rfl⟩:∃ a b,ar = #[a,b]:=⟨ar[0],ar[1],by
  apply Array.ext
  ·simp [h]
  ·intro i h1 h2
   simp at h2; rcases (by omega:i = 0\/i = 1) with rfl | rfl <;> rfl⟩
 refine callsD_of_wpS Tryz.func71 rfl λc₀ cs hu=>?_
 apply wpS_seq
 apply wpS_region
 simp [wpOpsS,go_sem,recoverD,hu,Tryz.ntmps71,Exit.thenS]; refine wpS_of_wp (wp_block (wp_seq ?_))
 apply wp_region
 simp [wpOps,go_sem,Tryz.underlying20,Exit.then]; refine .inl (wp_cond (t:=true) ?_ ?_)
 ·simp [Act.eval,Array.replicate]
 simp only [if_true]
 apply wp_region
 simp [wpOps,go_sem,Exit.inBlock,bodyPostS,results,Tryz.results71]; refine .inl ?_
 cases c₀
 simp_all
theorem idle100 (ar:Array Value) (w:World) (h:ar.size = 1):CallsD Tryz.prog 100 ar .returning w λe u' w'=>e = .returned (.tuple #[])/\u' = .returning/\w' = w:=by
 obtain ⟨a,rfl⟩:∃ a,ar = #[a]:=⟨ar[0],by
  apply Array.ext
  ·simp [h]
  ·intro i h1 h2
   simp at h2; rcases (by omega:i = 0) with rfl <;> rfl⟩
 refine callsD_of_wpS Tryz.func100 rfl λc₀ cs hu=>?_
 apply wpS_seq
 apply wpS_region
 simp [wpOpsS,go_sem,recoverD,hu,Tryz.ntmps100,Exit.thenS]; refine wpS_of_wp (wp_block (wp_seq ?_))
 apply wp_region
 simp [wpOps,go_sem,Tryz.underlying20,Exit.then]; refine .inl (wp_cond (t:=true) ?_ ?_)
 ·simp [Act.eval,Array.replicate]
 simp only [if_true]
 apply wp_region
 simp [wpOps,go_sem,Exit.inBlock,bodyPostS,results,Tryz.results100]; refine .inl ?_
 cases c₀
 simp_all
theorem defR {P:Program} {id d:Nat} {g:FuncId} {caps:Array Operand} {t1 t2:TypeId} {p1 p2:String} {a1 a2:Array Edge}:DefR P (.region id #[{ dst:=some d,op:=.makeFunc (.func g) #[] caps,type:=t1,pos:=p1,after:=a1,guard:=none },{ dst:=none,op:=.defer { callee:=.value (.tmp d),args:=#[],argTypes:=#[] },type:=t2,pos:=p2,after:=a2,guard:=none }] false) g d caps.toList:=by
 have hmf:∀ (fn:Fn) (first cap:Array Value) (w:World),(Instr.makeFunc fn first cap).run P w = .ok (.func fn first cap) w:=λ_ _ _ _=>rfl
 refine ⟨λa w Q hd h=>?_⟩
 apply wp_region
 have h:=h _ rfl; simp [wpOps,go_sem,hmf,hd]; have e:(List.map a.eval caps.toList).toArray = caps.map a.eval:=by apply Array.ext'; simp
 rw [e] at h; exact .inl (.inl h)
theorem invD {P:Program} {g:FuncId} (h:callOk P g = true) (ar:Array Value) (w:World):(invoke (.fn (.func g) ar) #[]).run P w = .ok (.enter g ar) w:=by
 simp [invoke,run_callFunc h]
end Go.Proofs.YtofpekbidngnfaaGreatDoor
