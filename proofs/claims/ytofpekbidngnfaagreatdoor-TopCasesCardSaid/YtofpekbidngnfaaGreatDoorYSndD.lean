/-
  One's own library, part 5j: maps; keys; values that are compared cell by cell.
-/
import Derived.Test.YtofpekbidngnfaaGreatDoorYSndB
set_option linter.unusedSectionVars false
set_option linter.unusedSimpArgs false
set_option linter.unusedVariables false
namespace Go.Proofs.YtofpekbidngnfaaGreatDoor
open Go.RowKit
section
variable {P:Program} {o:Oper} {a:Act} {σ:Sg} {H:List ABlk} {w:World} {s:List AV}
theorem fitL_length:∀ {kk:List KC} {cs:List Value},fitL kk cs = true->cs.length = kk.length
 | [],[],_=>rfl
 | [],_ :: _,h=>by simp [fitL] at h
 | _ :: _,[],h=>by simp [fitL] at h
 | k :: kk,c :: cs,h=>by simp [fitL] at h; simp [fitL_length h.2]
theorem fitL_append:∀ {a b:List KC} {cs:List Value},fitL (a ++ b) cs = true->fitL a (cs.take a.length) = true/\fitL b (cs.drop a.length) = true
 | [],b,cs,h=>by simp [fitL]; simpa using h
 | k :: a,b,[],h=>by simp [fitL] at h
 | k :: a,b,c :: cs,h=>by
  simp only [List.cons_append,fitL,Bool.and_eq_true] at h; obtain ⟨h1,h2⟩:=fitL_append h.2; exact ⟨by simp [fitL,h.1,h1],by simpa using h2⟩
theorem mapM_some {α β:Type} {f:α->Option β}:∀ {l:List α},(∀ x ∈ l,∃ y,f x = some y)->∃ ys,l.mapM f = some ys
 | [],_=>⟨[],rfl⟩
 | x :: l,h=>by
  obtain ⟨y,hy⟩:=h x (by simp); obtain ⟨ys,hys⟩:=mapM_some (l:=l) (λz hz=>h z (by simp [hz])); exact ⟨y :: ys,by simp [List.mapM_cons,hy,hys]⟩
theorem fits_rep {ke:List KC}:∀ {n i:Nat} {cs:List Value},fitL (List.replicate n ke).flatten cs = true->i < n->fitL ke ((cs.drop (i * ke.length)).take ke.length) = true
 | 0,i,cs,_,hi=>by omega
 | n + 1,i,cs,h,hi=>by
  rw [List.replicate_succ,List.flatten_cons] at h; obtain ⟨h1,h2⟩:=fitL_append h
  cases i with
  | zero=>simpa using h1
  | succ i =>
   have:=fits_rep h2 (i:=i) (by omega); rw [List.drop_drop] at this; rw [Nat.succ_mul,Nat.add_comm (i * ke.length)]; exact this
theorem fits_fields (P:Program) (d:Nat) (cs:List Value) (ih:∀ t kk,flatK P d t = some kk->P.tiled d t = true->P.keyTypeAt d t = true->kk.length = P.cellsOf t/\∀ cs,fitL kk cs = true->∃ l,P.keyLits d t cs = some l) :
 ∀ (fs:List Field) (off tot:Nat) (kks:List (List KC)),(fs.mapM λf=>flatK P d f.type) = some kks->P.runs off fs = some tot->(∀ f ∈ fs,P.tiled d f.type = true/\P.keyTypeAt d f.type = true) ->
  tot = off + kks.flatten.length/\(fitL kks.flatten (cs.drop off) = true->∀ f ∈ fs,∃ l,P.keyLits d f.type ((cs.drop f.offset).take (P.cellsOf f.type)) = some l)
 | [],off,tot,kks,hm,hr,_=>by
  simp at hm; subst hm; simp [Program.runs] at hr; exact ⟨by simp [hr],λ_ f hf=>by simp at hf⟩
 | f :: fs,off,tot,kks,hm,hr,hall=>by
  simp only [List.mapM_cons,Option.bind_eq_bind,Option.bind_eq_some_iff] at hm; obtain ⟨kf,hkf,kr,hkr,hm⟩:=hm; simp at hm; subst hm; simp only [Program.runs] at hr
  split at hr
  ·rename_i ho
   have hf:=hall f (by simp); obtain ⟨h1,h2⟩:=ih _ _ hkf hf.1 hf.2; obtain ⟨h3,h4⟩:=fits_fields P d cs ih fs _ tot kr hkr hr (λg hg=>hall g (by simp [hg])); refine ⟨by rw [h3,<- h1]; simp; omega,λhfit g hg=>?_⟩; rw [List.flatten_cons] at hfit; obtain ⟨k1,k2⟩:=fitL_append hfit; rcases List.mem_cons.1 hg with rfl | hg
   ·rw [ho,<- h1]
    exact h2 _ k1
   ·rw [List.drop_drop] at k2
    exact h4 (by rw [<- h1]; exact k2) g hg
  ·cases hr
theorem lits_of_flat (P:Program):∀ (d:Nat) (t:TypeId) (kk:List KC),flatK P d t = some kk->P.tiled d t = true->P.keyTypeAt d t = true->kk.length = P.cellsOf t/\∀ cs,fitL kk cs = true->∃ l,P.keyLits d t cs = some l
 | 0,t,kk,h,_,_=>by simp [flatK] at h
 | d + 1,t,kk,h,ht,hk=>by
  unfold flatK at h
  unfold Program.tiled at ht
  unfold Program.keyTypeAt at hk
  split at h
  ·rename_i hu
   split at h
   ·rename_i h1
    cases h
    refine ⟨by simp [h1],λcs hf=>?_⟩
    match cs,hf with
    | [v],hf =>
     cases v with
     | bool b=>exact ⟨_,by simp [Program.keyLits,hu]; rfl⟩
     | _=>simp [fitL,kcFit] at hf
    | [],hf=>simp [fitL] at hf
    | c :: c' :: cs,hf=>simp [fitL] at hf
   ·cases h
  ·rename_i k hu
   split at h
   ·rename_i h1
    cases h
    refine ⟨by simp [h1],λcs hf=>?_⟩
    match cs,hf with
    | [v],hf =>
     cases v with
     | int k' n =>
      simp [fitL,kcFit] at hf; obtain ⟨rfl,h2,h3⟩:=hf; exact ⟨_,by simp [Program.keyLits,hu,Lit.wf,h2,h3]; rfl⟩
     | _=>simp [fitL,kcFit] at hf
    | [],hf=>simp [fitL] at hf
    | c :: c' :: cs,hf=>simp [fitL] at hf
   ·cases h
  ·rename_i hu
   split at h
   ·rename_i h1
    cases h
    refine ⟨by simp [h1],λcs hf=>?_⟩
    match cs,hf with
    | [v],hf =>
     cases v with
     | string b =>
      simp [fitL,kcFit] at hf; exact ⟨_,by simp [Program.keyLits,hu,hf]; rfl⟩
     | _=>simp [fitL,kcFit] at hf
    | [],hf=>simp [fitL] at hf
    | c :: c' :: cs,hf=>simp [fitL] at hf
   ·cases h
  ·rename_i n e hu
   simp only [Option.map_eq_some_iff] at h; obtain ⟨ke,hke,rfl⟩:=h; simp only [hu,Bool.and_eq_true,beq_iff_eq] at ht hk; obtain ⟨h1,h2⟩:=lits_of_flat P d e ke hke ht.2 hk; have hlen:(List.replicate n ke).flatten.length = P.cellsOf t:=by
    rw [List.length_flatten,List.map_replicate,List.sum_replicate_nat,ht.1,h1]
   refine ⟨hlen,λcs hf=>?_⟩; have hcl:=fitL_length hf; obtain ⟨ys,hys⟩:=mapM_some (l:=List.range n) (f:=λi=>P.keyLits d e ((cs.drop (i * P.cellsOf e)).take (P.cellsOf e))) (λi hi=>by
    rw [<- h1]; exact h2 _ (fits_rep hf (List.mem_range.1 hi)))
   exact ⟨_,by simp only [Program.keyLits,hu]; rw [if_pos (by rw [hcl,hlen]),hys]; rfl⟩
  ·rename_i fs hu
   simp only [Option.map_eq_some_iff] at h; obtain ⟨kks,hkk,rfl⟩:=h; simp only [hu,Bool.and_eq_true,beq_iff_eq] at ht hk; have hall:∀ f ∈ fs.toList,P.tiled d f.type = true/\P.keyTypeAt d f.type = true:=λf hf=>by
    have h1:=Array.all_eq_true_iff_forall_mem.1 ht.2 f (Array.mem_toList_iff.1 hf); have h2:=Array.all_eq_true_iff_forall_mem.1 hk.1.1 f (Array.mem_toList_iff.1 hf); simp only [Bool.and_eq_true] at h2; exact ⟨h1,h2.2⟩
   have ih:=λt kk=>lits_of_flat P d t kk
   have hlen := (fits_fields P d [] ih fs.toList 0 _ kks hkk ht.1 hall).1; refine ⟨by omega, fun cs hf => ?_⟩; have hcl := fitL_length hf; obtain ⟨_, h4⟩ := fits_fields P d cs ih fs.toList 0 _ kks hkk ht.1 hall; obtain ⟨ys, hys⟩ := mapM_some (l := fs.toList) (h4 (by simpa using hf)); refine ⟨ys.flatten, ?_⟩; simp only [Program.keyLits, hu]; have hnm : (fs.all fun x => x.name != "_") = true := by
    rw [Array.all_eq_true_iff_forall_mem]
    intro f hf
    have h2:=Array.all_eq_true_iff_forall_mem.1 hk.1.1 f hf; simp only [Bool.and_eq_true] at h2; exact h2.1
   rw [if_pos ⟨by rw [hcl]; omega,hnm⟩,hys]; rfl
  ·cases h
theorem ktOf_law {t:TypeId} {kt:KT} (h:ktOf P t = some kt):WideMaps.KeyLaw P t/\∀ v,keyFits kt v = true->∃ l,Go.keyOf P t v = some l:=by
 unfold ktOf at h
 split at h
 ·rename_i hs
  cases h
  have hs':P.underlying t = some .string:=by
   unfold isStrT at hs; split at hs
   ·assumption
   ·cases hs
  refine ⟨WideMaps.string_law hs',λv hv=>?_⟩
  cases v with
  | string b =>
   simp [keyFits,kcFit] at hv; exact ⟨_,WideMaps.keyOf_string_mk hs' hv⟩
  | _=>simp [keyFits,kcFit] at hv
 ·split at h
  ·rename_i _ hc
   simp only [Bool.and_eq_true,decide_eq_true_eq] at hc; obtain ⟨⟨⟨⟨hw,hk⟩,ht⟩,hsz⟩,_⟩:=hc; simp only [Option.map_eq_some_iff] at h; obtain ⟨kk,hkk,rfl⟩:=h; have hwide:(match P.underlying t with | some (.array _ _) | some (.struct _)=>true | _=>false) = true:=hw; refine ⟨Go.deep_law (m:=P.types.size + 1) hsz hk ht hwide,λv hv=>?_⟩; obtain ⟨h1,h2⟩:=lits_of_flat P _ t kk hkk ht hk
   cases v with
   | agg cs =>
    have hf:fitL kk cs.toList = true:=by
     cases kk <;> simpa [keyFits] using hv
    obtain ⟨l,hl⟩:=h2 _ hf; have hcs:=fitL_length hf; rw [Array.length_toList] at hcs
    unfold Go.keyOf
    unfold wideT at hw
    split at hw
    ·rename_i n e hu
     simp only [hu]; rw [if_pos (by simp [hk,Value.formed,hu,hcs,h1]),show (Value.agg cs).cells = cs from rfl,hl]; exact ⟨_,rfl⟩
    ·rename_i fs hu
     simp only [hu]; rw [if_pos (by simp [hk,Value.formed,hu,hcs,h1]),show (Value.agg cs).cells = cs from rfl,hl]; exact ⟨_,rfl⟩
    ·cases hw
   | _=>cases kk <;> simp [keyFits] at hv
  ·cases h
theorem keq1_iff {k:KC} {a b:Value} (ha:kcFit k a = true) (hb:kcFit k b = true):keq1 a b = true ↔ a = b:=by
 cases k <;> cases a <;> simp [kcFit] at ha <;> cases b <;> simp [kcFit] at hb <;> simp [keq1] <;> (obtain ⟨rfl,_⟩:=ha; obtain ⟨rfl,_⟩:=hb; simp)
theorem keqL_iff:∀ {kk:List KC} {a b:List Value},fitL kk a = true->fitL kk b = true->(keqL a b = true ↔ a = b)
 | [],[],[],_,_=>by simp [keqL]
 | [],_ :: _,_,h,_=>by simp [fitL] at h
 | [],[],_ :: _,_,h=>by simp [fitL] at h
 | _ :: _,[],_,h,_=>by simp [fitL] at h
 | _ :: _,_ :: _,[],_,h=>by simp [fitL] at h
 | k :: kk,x :: a,y :: b,ha,hb=>by
  simp only [fitL,Bool.and_eq_true] at ha hb; simp [keqL,keq1_iff ha.1 hb.1,keqL_iff ha.2 hb.2]
theorem keq_iff {kt:KT} {a b:Value} (ha:keyFits kt a = true) (hb:keyFits kt b = true):keq a b = true ↔ a = b:=by
 obtain ⟨ag,kk⟩:=kt
 cases ag with
 | true =>
  cases a with
  | agg x =>
   cases b with
   | agg y =>
    have hx:fitL kk x.toList = true:=by cases kk <;> simpa [keyFits] using ha
    have hy:fitL kk y.toList = true:=by cases kk <;> simpa [keyFits] using hb
    rw [keq,keqL_iff hx hy]
    simp
   | _=>cases kk <;> simp [keyFits] at hb
  | _=>cases kk <;> simp [keyFits] at ha
 | false =>
  match kk,ha,hb with
  | [k],ha,hb =>
   have hx:kcFit k a = true:=by simpa [keyFits] using ha
   have hy:kcFit k b = true:=by simpa [keyFits] using hb
   rw [<- keq1_iff hx hy]
   cases a <;> first | rfl | (cases k <;> simp [kcFit] at hx)
  | [],ha,_=>simp [keyFits] at ha
  | _ :: _ :: _,ha,_=>simp [keyFits] at ha
theorem keyOf1_sound {x:AV} {u v:Value} (h:VR σ x u) (hk:keyOf1 x = some v):u = v:=by
 unfold keyOf1 at hk
 split at hk
 ·split at hk
  ·cases hk; exact h.plain_inv.1
  ·cases hk
 ·cases hk
theorem keysOf_sound:∀ {xs:List AV} {us vs:List Value},VRs σ xs us->keysOf xs = some vs->us = vs
 | [],us,vs,h,hk=>by
  simp [keysOf] at hk; subst hk; exact List.eq_nil_of_length_eq_zero h.1.symm
 | x :: xs,us,vs,h,hk=>by
  obtain ⟨u,us',rfl,h1,h2⟩:=h.cons_inv; simp only [keysOf] at hk
  split at hk
  ·rename_i v vs' e1 e2
   cases hk
   rw [keyOf1_sound h1 e1,keysOf_sound h2 e2]
  ·cases hk
theorem keyOf_sound {x:AV} {u v:Value} (h:VR σ x u) (hk:keyOf x = some v):u = v:=by
 unfold keyOf at hk
 split at hk
 ·split at hk
  ·cases hk; exact h.plain_inv.1
  ·cases hk
 ·split at hk
  ·rename_i l e
   cases hk
   cases h with
   | agg h1 h2=>rw [keysOf_sound ⟨h1,h2⟩ e]
  ·cases hk
 ·cases hk
theorem mapT_spec {t k e:TypeId} (h:mapT P t = some (k,e)):P.underlying t = some (.map k e):=by
 unfold mapT at h
 simp only [Option.bind_eq_some_iff] at h; obtain ⟨d,hd,h⟩:=h
 split at h
 ·cases h; exact hd
 ·cases h
theorem mapI_spec {t:TypeId} {kt:KT} {z:AV} (h:mapI P t = some (kt,z)):∃ k e,P.underlying t = some (.map k e)/\ktOf P k = some kt/\((P.info? e).bind (·.zero)).bind cst1 = some z:=by
 unfold mapI at h
 split at h
 ·rename_i k e hm
  split at h
  ·rename_i kt' z' h1 h2
   cases h
   exact ⟨k,e,mapT_spec hm,h1,h2⟩
  ·cases h
 ·cases h
structure MR (σ:Sg) (kt:KT) (es:List (Value × AV × Nat)) (ms:List MapEntry):Prop where
 vals:VRs σ (es.map (·.2.1)) (ms.map (·.val))
 keys:ms.map (·.key) = es.map (·.1)
 borns:ms.map (·.born) = es.map (·.2.2)
 fits:∀ e ∈ es,keyFits kt e.1 = true
 nodup:(es.map (·.1)).Nodup
theorem MR.nil {kt:KT}:MR σ kt [] []:=⟨.nil,rfl,rfl,λ_ h=>by simp at h,by simp⟩
theorem MR.cons {kt:KT} {e:Value × AV × Nat} {m:MapEntry} {es:List (Value × AV × Nat)} {ms:List MapEntry} (h:MR σ kt es ms) (hv:VR σ e.2.1 m.val) (hk:m.key = e.1) (hb:m.born = e.2.2) (hf:keyFits kt e.1 = true) (hn:∀ e' ∈ es,e'.1 ≠ e.1) :
 MR σ kt (e :: es) (m :: ms):=by
 refine ⟨.cons hv h.vals,by simp [hk,h.keys],by simp [hb,h.borns],λx hx=>?_,?_⟩
 ·rcases List.mem_cons.1 hx with rfl | hx
  ·exact hf
  ·exact h.fits x hx
 ·rw [List.map_cons,List.nodup_cons]
  refine ⟨λhc=>?_,h.nodup⟩; obtain ⟨x,hx,hxe⟩:=List.mem_map.1 hc; exact hn x hx hxe
theorem MR.cons_inv {kt:KT} {e:Value × AV × Nat} {es:List (Value × AV × Nat)} {ms:List MapEntry} (h:MR σ kt (e :: es) ms) :
 ∃ m ms',ms = m :: ms'/\VR σ e.2.1 m.val/\m.key = e.1/\m.born = e.2.2/\keyFits kt e.1 = true/\(∀ e' ∈ es,e'.1 ≠ e.1)/\MR σ kt es ms':=by
 match ms,h with
 | [],h=>have:=h.keys; simp at this
 | m :: ms',h =>
  have hk:=h.keys; have hb:=h.borns; have hv:=h.vals; have hn:=h.nodup; simp only [List.map_cons,List.cons.injEq] at hk hb; rw [List.map_cons,List.map_cons] at hv; obtain ⟨u,us,hu,h1,h2⟩:=hv.cons_inv
  cases hu
  rw [List.map_cons,List.nodup_cons] at hn; exact ⟨m,ms',rfl,h1,hk.1,hb.1,h.fits e (by simp),λe' he' hc=>hn.1 (hc ▸ List.mem_map_of_mem he'),⟨h2,hk.2,hb.2,λx hx=>h.fits x (by simp [hx]),hn.2⟩⟩
theorem MR.length {kt:KT}:∀ {es:List (Value × AV × Nat)} {ms:List MapEntry},MR σ kt es ms->ms.length = es.length:=λh=>by
 have:=congrArg List.length h.keys; simpa using this
def keyIx:List (Value × AV × Nat)->Value->Option Nat
 | [],_=>none
 | e :: r,k=>if keq e.1 k then some 0 else (keyIx r k).map (· + 1)
theorem keyIx_none {kt:KT}:∀ {es:List (Value × AV × Nat)} {k:Value},(∀ e ∈ es,keyFits kt e.1 = true)->keyFits kt k = true->(∀ e ∈ es,e.1 ≠ k)->keyIx es k = none/\mapGet es k = none
 | [],_,_,_,_=>⟨rfl,rfl⟩
 | e :: r,k,h1,h2,h3=>by
  obtain ⟨a,b⟩:=keyIx_none (es:=r) (λx hx=>h1 x (by simp [hx])) h2 (λx hx=>h3 x (by simp [hx])); have hne:¬ keq e.1 k = true:=λhc=>h3 e (by simp) ((keq_iff (h1 e (by simp)) h2).1 hc)
  simp [keyIx,mapGet,hne,a,b]
theorem keyIx_some {kt:KT}:∀ {es:List (Value × AV × Nat)} {k:Value} {j:Nat} {e:Value × AV × Nat},(∀ e ∈ es,keyFits kt e.1 = true)->keyFits kt k = true->(es.map (·.1)).Nodup->es[j]? = some e->e.1 = k->keyIx es k = some j/\mapGet es k = some e.2
 | [],_,_,_,_,_,_,h,_=>by simp at h
 | x :: r,k,0,e,h1,h2,_,h,hk=>by
  simp at h; subst h; have:keq x.1 k = true:=(keq_iff (h1 x (by simp)) h2).2 hk; simp [keyIx,mapGet,this]
 | x :: r,k,j + 1,e,h1,h2,hn,h,hk=>by
  simp at h; rw [List.map_cons,List.nodup_cons] at hn; obtain ⟨a,b⟩:=keyIx_some (λx hx=>h1 x (by simp [hx])) h2 hn.2 h hk; have hne:¬ keq x.1 k = true:=λhc=>by
   have hxk:=(keq_iff (h1 x (by simp)) h2).1 hc; exact hn.1 (by rw [hxk,<- hk]; exact List.mem_map_of_mem (List.mem_of_getElem? h))
  simp [keyIx,mapGet,hne,a,b]
theorem find_sound {kt:KT} {kty:TypeId} {es:List (Value × AV × Nat)} {ms:List MapEntry} {k:Value} (hkt:ktOf P kty = some kt) (hm:MR σ kt es ms) (hk:keyFits kt k = true) :
 ((Instr.findKey kty k ms).run P w = .ok none w/\mapGet es k = none/\∀ e ∈ es,e.1 ≠ k) \/
 ∃ (j:Nat) (e:Value × AV × Nat) (m:MapEntry),(Instr.findKey kty k ms).run P w = .ok (some (j,m.val)) w/\es[j]? = some e/\ms[j]? = some m/\mapGet es k = some e.2/\keyIx es k = some j/\e.1 = k/\m.key = k/\m.born = e.2.2/\VR σ e.2.1 m.val:=by
 obtain ⟨law,hf⟩:=ktOf_law hkt; obtain ⟨lx,hx⟩:=hf k hk; have hall:∀ e ∈ ms,∃ l,Go.keyOf P kty e.key = some l:=λe he=>by
  have hmem:e.key ∈ es.map (·.1):=hm.keys ▸ List.mem_map_of_mem he
  obtain ⟨x,hx,hxe⟩:=List.mem_map.1 hmem; exact hxe ▸ hf _ (hm.fits x hx)
 have hget:∀ (i:Nat) (m:MapEntry),ms[i]? = some m->∃ e,es[i]? = some e/\m.key = e.1/\m.born = e.2.2/\VR σ e.2.1 m.val:=λi m hi=>by
  have hlt:i < es.length:=by rw [<- hm.length]; exact (List.getElem?_eq_some_iff.1 hi).1
  have he:=gEe hlt; have h1:=congrArg (·[i]?) hm.keys; have h2:=congrArg (·[i]?) hm.borns; simp [hi,he] at h1 h2; refine ⟨es[i],he,h1,h2,hm.vals.2 i _ _ (by simp [he]) (by simp [hi])⟩
 rcases law.find w hx ms hall with ⟨h1,h2⟩ | ⟨j,m,h1,h2,h3⟩
 ·have hne : ∀ e ∈ es, e.1 ≠ k := fun e he hc => by
   have hmem:e.1 ∈ ms.map (·.key):=hm.keys ▸ List.mem_map_of_mem he
   obtain ⟨m,hm',hme⟩:=List.mem_map.1 hmem; exact h2 m hm' (hme.trans hc)
  exact .inl ⟨h1,(keyIx_none hm.fits hk hne).2,hne⟩
 ·obtain ⟨e,he,k1,k2,k3⟩:=hget j m h2
  obtain ⟨a,b⟩:=keyIx_some hm.fits hk hm.nodup he (k1.symm.trans h3); exact .inr ⟨j,e,m,h1,he,h2,b,a,k1.symm.trans h3,h3,k2,k3⟩
theorem mapSet_eq:∀ {es:List (Value × AV × Nat)} {k:Value} {j:Nat} {v:AV},keyIx es k = some j->mapSet es k v = es.modify j λe=>(e.1,v,e.2.2)
 | [],_,_,_,h=>by simp [keyIx] at h
 | e :: r,k,j,v,h=>by
  simp only [keyIx] at h
  split at h
  ·rename_i hc
   cases h
   simp [mapSet,hc]
  ·rename_i hc
   simp only [Option.map_eq_some_iff] at h; obtain ⟨i,hi,rfl⟩:=h; simp [mapSet,hc,mapSet_eq hi]
theorem mapDel_eq:∀ {es:List (Value × AV × Nat)} {k:Value} {j:Nat},keyIx es k = some j->mapDel es k = es.eraseIdx j
 | [],_,_,h=>by simp [keyIx] at h
 | e :: r,k,j,h=>by
  simp only [keyIx] at h
  split at h
  ·rename_i hc
   cases h
   simp [mapDel,hc]
  ·rename_i hc
   simp only [Option.map_eq_some_iff] at h; obtain ⟨i,hi,rfl⟩:=h; simp [mapDel,hc,mapDel_eq hi]
theorem mapDel_none:∀ {es:List (Value × AV × Nat)} {k:Value},mapGet es k = none->mapDel es k = es
 | [],_,_=>rfl
 | e :: r,k,h=>by
  simp only [mapGet] at h
  split at h
  ·cases h
  ·rename_i hc
   simp [mapDel,hc,mapDel_none h]
end
section
variable {P:Program} {o:Oper} {a:Act} {σ:Sg} {H:List ABlk} {w:World} {s:List AV}
theorem HR.mapAt (h:HR σ H w) {b g:Nat} {kt:KT} {ck:Nat} {es:List (Value × AV × Nat)} (hb:H[b]? = some (.map kt ck es)) (hφ:σ.φ b 0 = some (.map (some g))):∃ ms,w.heap[g]? = some (.map ms ck)/\MR σ kt es ms.toList:=by
 obtain ⟨g',ms,h1,h2,h3,h4,h5,h6,h7⟩:=h.blk b _ hb; rw [h1] at hφ; cases hφ; exact ⟨ms,h2,h3,h4,h5,h6,h7⟩
theorem MR.BR {kt:KT} {ck:Nat} {es:List (Value × AV × Nat)} {ms:Array MapEntry} {b g:Nat} {w':World} (hm:MR σ kt es ms.toList) (hφ:σ.φ b 0 = some (.map (some g))) (hg:w'.heap[g]? = some (.map ms ck)):BR σ w' b (.map kt ck es):=
 ⟨g,ms,hφ,hg,hm.vals,hm.keys,hm.borns,hm.fits,hm.nodup⟩
def setMap (w:World) (g:Nat) (o:Obj):World:={ w with heap:=w.heap.setIfInBounds g o }
theorem setMap_at {g:Nat} {o o':Obj} (h:w.heap[g]? = some o'):(setMap w g o).heap[g]? = some o:=by
 have hlt:=(Array.getElem?_eq_some_iff.1 h).1; simp [setMap,hlt]
theorem setMap_other {g k:Nat} {o:Obj} (h:k ≠ g):(setMap w g o).heap[k]? = w.heap[k]?:=by
 simp [setMap,Array.getElem?_setIfInBounds,Ne.symm h]
theorem setMap_size {g:Nat} {o:Obj}:(setMap w g o).heap.size = w.heap.size:=by simp [setMap]
theorem HR.setMapTo (h:HR σ H w) {b g:Nat} {kt:KT} {ck ck':Nat} {es es':List (Value × AV × Nat)} {ms':Array MapEntry} (hb:H[b]? = some (.map kt ck es)) (hφ:σ.φ b 0 = some (.map (some g))) (hm:MR σ kt es' ms'.toList) :
 Ext σ H w σ (H.set b (.map kt ck' es')) (setMap w g (.map ms' ck'))/\HR σ (H.set b (.map kt ck' es')) (setMap w g (.map ms' ck')):=by
 obtain ⟨ms,hg,_⟩:=h.mapAt hb hφ; have hlt:b < H.length:=(List.getElem?_eq_some_iff.1 hb).1; have hset:∀ b',b' ≠ b->(H.set b (.map kt ck' es'))[b']? = H[b']?:=λb' hne=>by rw [List.getElem?_set_ne (Ne.symm hne)]
 have hset0:(H.set b (.map kt ck' es'))[b]? = some (.map kt ck' es'):=by simp [hlt]
 have hnoM:∀ a:Addr,a.block = g->σ.M a = none:=λa ha=>by
  cases hm:σ.M a with
  | none=>rfl
  | some v =>
   have:=h.mem a v hm; simp only [World.cell?,ha,hg] at this
   cases this
 refine ⟨⟨.refl σ,rfl,rfl,rfl,by rw [setMap_size]; exact Nat.le_refl _,λk hk hf=>setMap_other (λe=>hf ?_),?_,λ_ h=>absurd rfl h,λb' hd=>dead_set hd hb (by simp) (λ_ _=>rfl)⟩,?_⟩
 ·subst e; exact ⟨b,_,_,hb,rfl,hφ,rfl⟩
 ·rintro k ⟨b',blk,v,hb',hl,hφ',hc⟩
  by_cases e:b' = b
  ·subst e
   rw [hset0] at hb'; cases hb'; exact .inl ⟨b',_,v,hb,rfl,hφ',hc⟩
  ·rw [hset b' e] at hb'
   exact .inl ⟨b',blk,v,hb',hl,hφ',hc⟩
 ·refine h.turn (.refl σ) b (.map kt ck' es') hset hset0 (by simp) (λ_ _ _=>rfl) ⟨λa v hm=>?_,h.mem.gl,h.mem.sz.to λt0 ht0 c e f hc=>⟨c,e,f,(setMap_other (λe=>by rw [e,hg] at hc; cases hc)).trans hc,rfl⟩⟩ (hm.BR hφ (setMap_at hg)) ?_
  ·have hne:a.block ≠ g:=λe=>by rw [hnoM a e] at hm; cases hm
   have:=h.mem a v hm; simp only [World.cell?,setMap_other hne] at this ⊢; exact this
  ·intro b' k v g' hne hk hl hφ' hc
   have hgg:g' ≠ g:=λe=>hne (h.inj b' b k _ v _ g' hk hb hl rfl hφ' hφ hc (by simp [conc,e]))
   refine ⟨setMap_other hgg,λ_ _=>rfl,λv0 _ hv0=>?_⟩; rw [show ABlk.ver (.map kt ck' es') = 0 from rfl,hφ] at hv0
   cases hv0
   simp [conc]; exact λe=>hgg e.symm
theorem run_setObj_map {g:Nat} {ms ms':Array MapEntry} {ck ck':Nat} (hg:w.heap[g]? = some (.map ms ck)):(setObj g (.map ms' ck')).run P w = .ok () (setMap w g (.map ms' ck')):=by
 have hlt:=(Array.getElem?_eq_some_iff.1 hg).1; simp only [setObj,Sem.run,hg,setMap]
theorem run_getObj_map {g:Nat} {ms:Array MapEntry} {ck:Nat} (hg:w.heap[g]? = some (.map ms ck)):(getObj g).run P w = .ok (.map ms ck) w:=by
 simp only [getObj,Sem.run,hg]
theorem ok_mkm {t:TypeId} {r:Option Operand} {kt:KT} {z:AV} (ho:o.op = .makeMap t r) (hr:r = none\/∃ k n,r = some (.const (.int k n))) (ht:mapI P t = some (kt,z)) (h:HR σ H w) :
 OpOk P o a σ H w (.mp H.length) (H ++ [.map kt 0 []]):=by
 obtain ⟨k,e,hu,_⟩:=mapI_spec ht; have hrun:(execOp a.eval o).run P w = .ok (.value (.map (some w.heap.size))) (w.alloc (.map #[] 0)):=by
  rcases hr with rfl | ⟨kk,n,rfl⟩
  ·simp [execOp,ho,Instr.makeMap,newObj,Sem.run]
  ·simp [execOp,ho,Instr.makeMap,newObj,Sem.run,run_underlying hu,Act.eval,asInt,asIntOf]
 have hnew:∀ n,σ.φ H.length n = none:=λn=>h.fresh _ _ (Nat.le_refl _)
 have hle:=Sg.putφ_le (v:=.map (some w.heap.size)) (hnew 0); refine ⟨σ.putφ H.length 0 (.map (some w.heap.size)),_,_,.inl hrun,⟨hle,rfl,rfl,rfl,by simp,λk hk _=>alloc_heap_old w _ hk,?_,λ_ h=>absurd rfl h,λb hb=>dead_concat hb (λn hne=>Sg.putφ_other _ _ _ _ _ hne)⟩,?_,.mp (Sg.putφ_same ..)⟩
 ·rintro k ⟨b',blk,v',hb,hl,hφ,hc'⟩
  by_cases e':b' = H.length
  ·subst e'
   simp at hb; subst hb; rw [show ABlk.ver (.map kt 0 []) = 0 from rfl,Sg.putφ_same] at hφ
   cases hφ
   simp [conc] at hc'; exact .inr (by omega)
  ·rw [getElem?_concat_ne H _ e'] at hb
   rw [Sg.putφ_other _ _ _ _ _ e'] at hφ; exact .inl ⟨b',blk,v',hb,hl,hφ,hc'⟩
 ·refine h.turn hle H.length (.map kt 0 []) (fun b hb => getElem?_concat_ne H _ hb) (by simp) (by simp) (fun b n hb => Sg.putφ_other _ _ _ _ _ hb) ⟨fun a v hm => h.mem_alloc _ a v hm, h.mem.gl, h.mem.sz.alloc _⟩
   (MR.nil.BR (Sg.putφ_same ..) (alloc_heap_new w _)) λb' k v g hb hk hl hv hcv=>?_
  have hlt:=(h.blk b' k hk).lt hl hv hcv; refine ⟨alloc_heap_old w _ hlt,λ_ _=>rfl,λv0 _ hv0=>?_⟩; rw [show ABlk.ver (.map kt 0 []) = 0 from rfl,Sg.putφ_same] at hv0
  cases hv0
  simp [conc]; omega
theorem run_zero1 (σ:Sg) {e:TypeId} {z:AV} (hz:((P.info? e).bind (·.zero)).bind cst1 = some z) (w:World):∃ zv,(zeroValue e).run P w = .ok zv w/\VR σ z zv:=by
 simp only [Option.bind_eq_some_iff] at hz; obtain ⟨zv,⟨i,hi,hz⟩,hc⟩:=hz; exact ⟨zv,run_zeroValue hi hz w,cst1_sound hc⟩
theorem keyFits_stays {kt:KT} {kty:TypeId} (hkt:ktOf P kty = some kt) {k:Value} (hk:keyFits kt k = true) (em:Bool) (w:World):(Instr.checkKey em 10000 kty k).run P w = .ok () w/\(Instr.keyThatStays k k).run P w = .ok k w:=by
 obtain ⟨law,hf⟩:=ktOf_law hkt; obtain ⟨l,hl⟩:=hf k hk; exact ⟨law.check w em hl,law.stays w hl⟩
theorem run_lookup {t k e:TypeId} {kt:KT} {z:AV} {zv kv xv:Value} {okk:Bool} {es:List (Value × AV × Nat)} {ms:Array MapEntry} (hu:P.underlying t = some (.map k e)) (hkt:ktOf P k = some kt) (hz:(zeroValue e).run P w = .ok zv w) (hzv:VR σ z zv)
 (hfit:keyFits kt kv = true) (hmr:MR σ kt es ms.toList) (hx:(xv = .map none/\ms = #[])\/∃ g ck,xv = .map (some g)/\w.heap[g]? = some (.map ms ck)) :
 ∃ u,(Instr.lookup t xv kv okk).run P w = .ok u w/\(∀ v,mapGet es kv = some v->VR σ (if okk then .tup [v.1,.d (.v (.bool true))] else v.1) u)/\(mapGet es kv = none->VR σ (if okk then .tup [z,.d (.v (.bool false))] else z) u):=by
 obtain ⟨c1,_⟩:=keyFits_stays hkt hfit ms.isEmpty w; have tup:∀ (v:AV) (u:Value) (b:Bool),VR σ v u->VR σ (if okk then .tup [v,.d (.v (.bool b))] else v) (if okk then .tuple #[u,.bool b] else u):=λv u b hv=>by
  cases okk with
  | false=>exact hv
  | true =>
   have:=VRs.cons hv (VRs.cons (VR.mk_bool (σ:=σ) b) VRs.nil); exact .tup this.1 this.2
 rcases find_sound (P:=P) (w:=w) hkt hmr hfit with ⟨f1,f2,_⟩ | ⟨j,e',m,f1,_,_,f2,_,_,_,_,f3⟩
 ·refine ⟨if okk then .tuple #[zv,.bool false] else zv,?_,⟨λv hv=>?_,λ_=>tup _ _ _ hzv⟩⟩
  rotate_left
  ·rw [f2] at hv; cases hv
  rcases hx with ⟨rfl,rfl⟩ | ⟨g,ck,rfl,hg⟩
  ·simp [Instr.lookup,run_underlying hu] at c1 f1 ⊢
   simp [c1,f1,hz]
  ·simp [Instr.lookup,run_underlying hu,run_getObj_map hg] at c1 f1 ⊢
   simp [c1,f1,hz]
 ·refine ⟨if okk then .tuple #[m.val,.bool true] else m.val,?_,⟨λv hv=>?_,λhn=>?_⟩⟩
  rotate_left
  ·rw [f2] at hv; cases hv; exact tup _ _ _ f3
  ·rw [f2] at hn; cases hn
  rcases hx with ⟨rfl,rfl⟩ | ⟨g,ck,rfl,hg⟩
  ·simp [Instr.lookup,run_underlying hu] at c1 f1 ⊢
   simp [c1,f1]
  ·simp [Instr.lookup,run_underlying hu,run_getObj_map hg] at c1 f1 ⊢
   simp [c1,f1]
theorem ok_lk {t:TypeId} {x y:Operand} {x' y':Opd} {kt:KT} {z v:AV} {okk:Bool} {H':List ABlk} (ho:o.op = .lookup t x y okk) (ht:mapI P t = some (kt,z)) (hx:opd x = some x') (hy:opd y = some y') (hs:SS σ s a) (h:HR σ H w)
 (hv:evK (.lk kt z x' y' okk) s H = some (v,H')):OpOk P o a σ H w v H':=by
 obtain ⟨k,e,hu,hkt,hz⟩:=mapI_spec ht; have h1:=get_sound hx hs; have h2:=get_sound hy hs; simp only [evK] at hv
 split at hv
 ·rename_i kv e1
  have hku:=keyOf_sound h2 e1
  split at hv
  ·rename_i hfit
   split at hv
   ·rename_i es e2
    obtain ⟨zv,hzr,hzv⟩:=run_zero1 (P:=P) σ hz w; have hm:∃ ms:Array MapEntry,MR σ kt es ms.toList/\((a.eval x = .map none/\ms = #[])\/∃ g ck,a.eval x = .map (some g)/\w.heap[g]? = some (.map ms ck)):=by
     generalize hX:get s x' = X at h1 e2
     generalize a.eval x = p at h1
     unfold mapOf at e2
     split at e2
     ·cases e2
      cases h1
      exact ⟨#[],MR.nil,.inl ⟨rfl,rfl⟩⟩
     ·rename_i b
      split at e2
      ·rename_i kt' ck es' hb
       split at e2
       ·rename_i hkk
        cases e2
        subst hkk
        cases h1 with
        | mp hφ =>
         obtain ⟨ms,hg,hmr⟩:=h.mapAt hb hφ; exact ⟨ms,hmr,.inr ⟨_,_,rfl,hg⟩⟩
       ·cases e2
      ·cases e2
     ·cases e2
    obtain ⟨ms,hmr,hxx⟩:=hm; obtain ⟨u,r1,r2,r3⟩:=run_lookup (P:=P) (okk:=okk) hu hkt hzr hzv hfit hmr hxx; have hrun:(execOp a.eval o).run P w = .ok (.value u) w:=by simp [execOp,ho,hku,r1]
    split at hv
    ·rename_i e' e3
     cases hv
     exact .pure h hrun (r2 _ e3)
    ·rename_i e3
     cases hv
     exact .pure h hrun (r3 e3)
   ·cases hv
  ·cases hv
 ·cases hv
theorem MR.push {kt:KT} {es:List (Value × AV × Nat)} {ms:List MapEntry} {k u:Value} {v:AV} {n:Nat} (h:MR σ kt es ms) (hv:VR σ v u) (hf:keyFits kt k = true) (hn:∀ e ∈ es,e.1 ≠ k) :
 MR σ kt (es ++ [(k,v,n)]) (ms ++ [{ key:=k,val:=u,born:=n }]):=by
 refine ⟨?_,by simp [h.keys],by simp [h.borns],λx hx=>?_,?_⟩
 ·rw [List.map_append,List.map_append]
  exact h.vals.append (.cons hv .nil)
 ·rcases List.mem_append.1 hx with hx | hx
  ·exact h.fits x hx
  ·simp at hx; subst hx; exact hf
 ·rw [List.map_append,List.nodup_append]
  refine ⟨h.nodup,by simp,λx hx y hy=>?_⟩; simp at hy; subst hy; obtain ⟨e,he,rfl⟩:=List.mem_map.1 hx; exact hn e he
theorem MR.modify {kt:KT} {es:List (Value × AV × Nat)} {ms:List MapEntry} {j:Nat} {u k:Value} {v:AV} {e:Value × AV × Nat} (h:MR σ kt es ms) (hv:VR σ v u) (he:es[j]? = some e) (hk:e.1 = k) :
 MR σ kt (es.modify j λe=>(e.1,v,e.2.2)) (ms.modify j λm=>{ m with key:=k,val:=u }):=by
 have hkm:((es.modify j λe=>(e.1,v,e.2.2)).map (·.1)) = es.map (·.1):=by
  apply List.ext_getElem?
  intro i
  simp only [List.getElem?_map,List.getElem?_modify]
  split <;> cases es[i]? <;> rfl
 refine ⟨⟨by simp [h.length],λi c u' h1 h2=>?_⟩,?_,?_,λx hx=>?_,by rw [hkm]; exact h.nodup⟩
 ·simp only [List.getElem?_map,List.getElem?_modify] at h1 h2
  have hb:=h.vals.2 i; simp only [List.getElem?_map] at hb
  by_cases hij:j = i
  ·subst hij
   rw [he] at h1
   cases hm:ms[j]? with
   | none=>simp [hm] at h2
   | some m=>simp at h1; simp [hm] at h2; subst h1; subst h2; exact hv
  ·cases hx:es[i]? with
   | none=>simp [hij,hx] at h1
   | some x =>
    cases hm:ms[i]? with
    | none=>simp [hij,hm] at h2
    | some m =>
     simp [hij,hx] at h1; simp [hij,hm] at h2; exact hb _ _ (by simp [hx,h1]) (by simp [hm,h2])
 ·rw [hkm,<- h.keys]
  apply List.ext_getElem?
  intro i
  simp only [List.getElem?_map,List.getElem?_modify]
  by_cases hij:j = i
  ·subst hij
   have hkk:=congrArg (·[j]?) h.keys; simp [he] at hkk; obtain ⟨m,hm,hme⟩:=hkk; simp [hm,hme,hk]
  ·simp [hij]
 ·have : ((es.modify j fun e => (e.1, v, e.2.2)).map (·.2.2)) = es.map (·.2.2) := by
   apply List.ext_getElem?
   intro i
   simp only [List.getElem?_map,List.getElem?_modify]
   split <;> cases es[i]? <;> rfl
  rw [this,<- h.borns]
  apply List.ext_getElem?
  intro i
  simp only [List.getElem?_map,List.getElem?_modify]
  split <;> cases ms[i]? <;> rfl
 ·have:x.1 ∈ (es.modify j λe=>(e.1,v,e.2.2)).map (·.1):=List.mem_map_of_mem hx
  rw [hkm] at this; obtain ⟨y,hy,hyx⟩:=List.mem_map.1 this; rw [<- hyx]; exact h.fits y hy
theorem MR.erase {kt:KT} {es:List (Value × AV × Nat)} {ms:List MapEntry} {j:Nat} (h:MR σ kt es ms):MR σ kt (es.eraseIdx j) (ms.eraseIdx j):=by
 have hk:∀ {α β:Type} (f:α->β) (l:List α) (j:Nat),(l.eraseIdx j).map f = (l.map f).eraseIdx j:=λf l j=>by
  induction l generalizing j with
  | nil=>simp
  | cons x l ih=>cases j <;> simp [ih]
 refine ⟨⟨by rw [hk,hk,List.length_eraseIdx,List.length_eraseIdx,h.vals.1],λi c u h1 h2=>?_⟩,by rw [hk,hk,h.keys],by rw [hk,hk,h.borns],λx hx=>h.fits x (List.mem_of_mem_eraseIdx hx),?_⟩
 ·rw [hk,List.getElem?_eraseIdx] at h1
  rw [hk,List.getElem?_eraseIdx] at h2
  split at h1
  ·rename_i hij; rw [if_pos hij] at h2; exact h.vals.2 _ c u h1 h2
  ·rename_i hij; rw [if_neg hij] at h2; exact h.vals.2 _ c u h1 h2
 ·rw [hk]; exact h.nodup.sublist (List.eraseIdx_sublist _ _)
theorem run_mapPut {t k e:TypeId} {kt:KT} {kv u:Value} {v:AV} {es:List (Value × AV × Nat)} {ms:Array MapEntry} {g ck:Nat} (hu:P.underlying t = some (.map k e)) (hkt:ktOf P k = some kt)
 (hfit:keyFits kt kv = true) (hmr:MR σ kt es ms.toList) (hg:w.heap[g]? = some (.map ms ck)) (hv:VR σ v u) :
 ∃ ms',(Instr.mapUpdate t (.map (some g)) kv u).run P w = .ok () (setMap w g (.map ms' (mapPut ck es kv v).1))/\MR σ kt (mapPut ck es kv v).2 ms'.toList:=by
 obtain ⟨c1,c2⟩:=keyFits_stays hkt hfit false w; rcases find_sound (P:=P) (w:=w) hkt hmr hfit with ⟨f1,f2,f3⟩ | ⟨j,e',m,f1,f2,f3,f4,f5,f6,f7,f8,f9⟩
 ·refine ⟨ms.push { key:=kv,val:=u,born:=ck },?_,?_⟩
  ·simp [Instr.mapUpdate,run_underlying hu,run_getObj_map hg,c1,f1,run_setObj_map hg,mapPut,f2]
  ·simpa [mapPut,f2] using hmr.push (n:=ck) hv hfit f3
 ·have hjm:ms[j]? = some m:=by simpa using f3
  refine ⟨ms.modify j λe=>{ e with key:=kv,val:=u },?_,?_⟩
  ·simp [Instr.mapUpdate,run_underlying hu,run_getObj_map hg,c1,f1,run_setObj_map hg,mapPut,f4,hjm,f7,c2]
  ·have:=hmr.modify hv f2 f6
   simpa [mapPut,f4,mapSet_eq f5,Array.toList_modify] using this
theorem ok_mu {t:TypeId} {x y q:Operand} {x' y' q':Opd} {kt:KT} {z v:AV} {H':List ABlk} (ho:o.op = .mapUpdate t x y q\/o.op = .insert t x y q) (ht:mapI P t = some (kt,z)) (hx:opd x = some x') (hy:opd y = some y') (hq:opd q = some q') (hs:SS σ s a) (h:HR σ H w)
 (hv:evK (.mu kt x' y' q') s H = some (v,H')):OpOk P o a σ H w v H':=by
 obtain ⟨k,e,hu,hkt,hz⟩:=mapI_spec ht; have h1:=get_sound hx hs; have h2:=get_sound hy hs; have h3:=get_sound hq hs; simp only [evK] at hv
 split at hv
 ·rename_i b kv e0 e1
  rw [e0] at h1; have hku:=keyOf_sound h2 e1
  split at hv
  ·rename_i hfit
   split at hv
   ·rename_i kt' ck es hb
    split at hv
    ·rename_i hkk
     subst hkk
     cases hv
     generalize hp:a.eval x = p at h1
     cases h1 with
     | mp hφ =>
      obtain ⟨ms,hg,hmr⟩:=h.mapAt hb hφ; obtain ⟨ms',r1,r2⟩:=run_mapPut (P:=P) hu hkt hfit.1 hmr hg h3; obtain ⟨x1,x2⟩:=h.setMapTo (ck':=(mapPut ck es kv (get s q')).1) hb hφ r2; exact ⟨σ,_,undef,.inr ⟨by rcases ho with ho | ho <;> simp [execOp,ho,hp,hku,r1],rfl⟩,x1,x2,.tup (us:=[]) rfl (λi c u hi=>by simp at hi)⟩
    ·cases hv
   ·cases hv
  ·cases hv
 ·cases hv
theorem setMap_self {g:Nat} {o:Obj} (h:w.heap[g]? = some o):setMap w g o = w:=by
 have hlt:=(Array.getElem?_eq_some_iff.1 h).1; have hv:=(Array.getElem?_eq_some_iff.1 h).2; have:w.heap.setIfInBounds g o = w.heap:=by
  apply Array.ext
  ·rw [Array.size_setIfInBounds]
  ·intro i h1 h2
   rw [Array.getElem_setIfInBounds]
   split
   ·rename_i e; subst e; exact hv.symm
   ·rfl
 unfold setMap
 rw [this]
theorem modify_key_self {ms:Array MapEntry} {j:Nat} {m:MapEntry} {k:Value} (h:ms[j]? = some m) (hk:m.key = k):(ms.modify j λe=>{ e with key:=k }) = ms:=by
 apply Array.ext
 ·simp
 ·intro i h1 h2
  rw [Array.getElem_modify]
  split
  ·rename_i e
   subst e; have:ms[j] = m:=by rw [Array.getElem?_eq_getElem h2] at h; injection h
   rw [this,<- hk]
  ·rfl
theorem run_mapEntry {t k e:TypeId} {kt:KT} {kv:Value} {z:AV} {zv:Value} {es:List (Value × AV × Nat)} {ms:Array MapEntry} {g ck:Nat} (hu:P.underlying t = some (.map k e)) (hkt:ktOf P k = some kt) (hz:(zeroValue e).run P w = .ok zv w) (hzv:VR σ z zv)
 (hfit:keyFits kt kv = true) (hmr:MR σ kt es ms.toList) (hg:w.heap[g]? = some (.map ms ck)) :
 (mapGet es kv = none/\(Instr.mapEntry t (.map (some g)) kv).run P w = .ok (.tuple #[zv,.int .i64 ck]) (setMap w g (.map (ms.push { key:=kv,val:=zv,born:=ck }) (ck + 1)))/\MR σ kt (es ++ [(kv,z,ck)]) (ms.push { key:=kv,val:=zv,born:=ck }).toList) \/
 ∃ v u,mapGet es kv = some v/\VR σ v.1 u/\(Instr.mapEntry t (.map (some g)) kv).run P w = .ok (.tuple #[u,.int .i64 v.2]) w:=by
 obtain ⟨c1,c2⟩:=keyFits_stays hkt hfit false w; rcases find_sound (P:=P) (w:=w) hkt hmr hfit with ⟨f1,f2,f3⟩ | ⟨j,e',m,f1,f2,f3,f4,f5,f6,f7,f8,f9⟩
 ·refine .inl ⟨f2,?_,by simpa using hmr.push (n:=ck) hzv hfit f3⟩
  simp [Instr.mapEntry,run_underlying hu,run_getObj_map hg,c1,f1,hz,run_setObj_map hg,goInt]
 ·have hjm:ms[j]? = some m:=by simpa using f3
  refine .inr ⟨e'.2,m.val,f4,f9,?_⟩; have hself:setMap w g (.map (ms.modify j λe=>{ e with key:=kv }) ck) = w:=by rw [modify_key_self hjm f7]; exact setMap_self hg
  simp [Instr.mapEntry,run_underlying hu,run_getObj_map hg,c1,f1,run_setObj_map hg,hjm,f7,c2,goInt,hself,f8]
theorem ok_me {t:TypeId} {x y:Operand} {x' y':Opd} {kt:KT} {z v:AV} {H':List ABlk} (ho:o.op = .mapEntry t x y) (ht:mapI P t = some (kt,z)) (hx:opd x = some x') (hy:opd y = some y') (hs:SS σ s a) (h:HR σ H w)
 (hv:evK (.me kt z x' y') s H = some (v,H')):OpOk P o a σ H w v H':=by
 obtain ⟨k,e,hu,hkt,hz⟩:=mapI_spec ht; have h1:=get_sound hx hs; have h2:=get_sound hy hs; have tup:∀ {σ:Sg} {v:AV} {u:Value} (n:Int),VR σ v u->VR σ (.tup [v,.d (.v (.int .i64 n))]) (.tuple #[u,.int .i64 n]):=λn hv=>by
  have:=VRs.cons hv (VRs.cons (VR.mk_int .i64 n) VRs.nil); exact .tup this.1 this.2
 simp only [evK] at hv
 split at hv
 ·rename_i b kv e0 e1
  rw [e0] at h1; have hku:=keyOf_sound h2 e1
  split at hv
  ·rename_i hfit
   split at hv
   ·rename_i kt' ck es hb
    split at hv
    ·rename_i hkk
     subst hkk
     generalize hp:a.eval x = p at h1
     cases h1 with
     | mp hφ =>
      obtain ⟨ms,hg,hmr⟩:=h.mapAt hb hφ; obtain ⟨zv,hzr,hzv⟩:=run_zero1 (P:=P) σ hz w; rcases run_mapEntry (P:=P) hu hkt hzr hzv hfit hmr hg with ⟨r1,r2,r3⟩ | ⟨v',u,r1,r2,r3⟩
      ·rw [r1] at hv
       cases hv
       obtain ⟨x1,x2⟩:=h.setMapTo (ck':=ck + 1) hb hφ r3; exact ⟨σ,_,_,.inl (by simp [execOp,ho,hp,hku,r2]),x1,x2,tup _ hzv⟩
      ·rw [r1] at hv
       cases hv
       exact .pure h (by simp [execOp,ho,hp,hku,r3]) (tup _ r2)
    ·cases hv
   ·cases hv
  ·cases hv
 ·cases hv
theorem mapSt_spec:∀ {es es':List (Value × AV × Nat)} {n:Int} {v:AV},mapSt es n v = some es'->∃ j e,es[j]? = some e/\es' = es.modify j (λe=>(e.1,v,e.2.2))/\(e.2.2:Int) = n/\∀ i,i < j->∀ e',es[i]? = some e'->(e'.2.2:Int) ≠ n
 | [],_,_,_,h=>by simp [mapSt] at h
 | e :: r,es',n,v,h=>by
  simp only [mapSt] at h
  split at h
  ·rename_i hc
   cases h
   exact ⟨0,e,rfl,rfl,by simpa using hc,λi hi=>by omega⟩
  ·rename_i hc
   split at h
   ·rename_i r' hr
    cases h
    obtain ⟨j,e',h1,h2,h3,h4⟩:=mapSt_spec hr; refine ⟨j + 1,e',by simpa using h1,by simp [h2],h3,λi hi x hx=>?_⟩
    cases i with
    | zero=>simp at hx; subst hx; simpa using hc
    | succ i=>exact h4 i (by omega) x (by simpa using hx)
   ·cases h
theorem ok_mes {t:TypeId} {x y q:Operand} {x' y' q':Opd} {v:AV} {H':List ABlk} (ho:o.op = .entryStore t x y q) (hx:opd x = some x') (hy:opd y = some y') (hq:opd q = some q') (hs:SS σ s a) (h:HR σ H w)
 (hv:evK (.mes x' y' q') s H = some (v,H')):OpOk P o a σ H w v H':=by
 have h1:=get_sound hx hs; have h2:=get_sound hy hs; have h3:=get_sound hq hs; simp only [evK] at hv
 split at hv
 ·rename_i b kd n e0 e1
  rw [e0] at h1; rw [e1] at h2
  split at hv
  ·rename_i kt ck es hb
   split at hv
   ·split at hv
    ·rename_i es' e2
     cases hv
     generalize hp:a.eval x = p at h1
     cases h1 with
     | mp hφ =>
      obtain ⟨ms,hg,hmr⟩:=h.mapAt hb hφ; obtain ⟨j,e,g1,rfl,g3,g4⟩:=mapSt_spec e2; have hlt:j < ms.size:=by
       have:=(List.getElem?_eq_some_iff.1 g1).1; rw [<- Array.length_toList,hmr.length]; exact this
      have hborn:∀ (i:Nat) (hi:i < ms.size) (e':Value × AV × Nat),es[i]? = some e'->ms[i].born = e'.2.2:=λi hi e' he'=>by
       have:=congrArg (·[i]?) hmr.borns; simp [he',hi] at this; exact this
      have hix:ms.findIdx? (λe=>(e.born:Int) == n) = some j:=by
       rw [Array.findIdx?_eq_some_iff_getElem]; refine ⟨hlt,by simp [hborn j hlt e g1,g3],λi hi=>?_⟩; have hi':i < es.length:=by have:=(List.getElem?_eq_some_iff.1 g1).1; omega
       have:=g4 i hi _ (gEe hi'); simp [hborn i (by omega) _ (gEe hi')]; exact this
      obtain ⟨m,hm⟩:∃ m,ms[j]? = some m:=⟨_,Array.getElem?_eq_getElem hlt⟩; have hmk:m.key = e.1:=by
       have:=congrArg (·[j]?) hmr.keys; simp [g1,hm] at this; exact this
      have hmod:(ms.modify j λe=>{ e with val:=a.eval q }) = ms.modify j λe'=>{ e' with key:=e.1,val:=a.eval q }:=by
       apply Array.ext
       ·simp
       ·intro i k1 k2
        rw [Array.getElem_modify,Array.getElem_modify]
        split
        ·rename_i hij
         subst hij; have hme:ms[j] = m:=by rw [Array.getElem?_eq_getElem hlt] at hm; injection hm
         rw [hme,<- hmk]
        ·rfl
      have hr2:=hmr.modify (u:=a.eval q) (k:=e.1) h3 g1 rfl; have hr3:MR σ kt (es.modify j λe=>(e.1,get s q',e.2.2)) (ms.modify j λe'=>{ e' with key:=e.1,val:=a.eval q }).toList:=by
       rw [Array.toList_modify]; exact hr2
      obtain ⟨x1,x2⟩:=h.setMapTo (ck':=ck) hb hφ hr3; refine ⟨σ,_,undef,.inr ⟨?_,rfl⟩,x1,x2,.tup (us:=[]) rfl (λi c u hi=>by simp at hi)⟩; simp [execOp,ho,hp,Instr.entryStore,run_getObj_map hg,h2.int_inv,asInt,asIntOf,hix,run_setObj_map hg,hmod]
    ·cases hv
   ·cases hv
  ·cases hv
 ·cases hv
theorem ok_del {c:Call} {t t2:TypeId} {x y:Operand} {x' y':Opd} {kt:KT} {z v:AV} {H':List ABlk} (ho:o.op = .call c) (hc:c.callee = .builtin .delete) (hT:c.argTypes.toList = [t,t2]) (hA:c.args.toList = [x,y]) (ht:mapI P t = some (kt,z)) (hx:opd x = some x') (hy:opd y = some y') (hs:SS σ s a) (h:HR σ H w)
 (hv:evK (.del kt x' y') s H = some (v,H')):OpOk P o a σ H w v H':=by
 have hT':c.argTypes = #[t,t2]:=by rw [<- Array.toArray_toList (xs:=c.argTypes),hT]
 have hA':c.args = #[x,y]:=by rw [<- Array.toArray_toList (xs:=c.args),hA]
 obtain ⟨k,e,hu,hkt,hz⟩:=mapI_spec ht; have h1:=get_sound hx hs; have h2:=get_sound hy hs; have hrun:∀ {v w'},(Builtin.delete_ #[t,t2] o.type #[a.eval x,a.eval y]).run P w = .ok v w'->(execOp a.eval o).run P w = .ok (.value v) w':=λhr=>by
  simp [execOp,ho,resolve,hc,hA',hT',invoke,builtin,hr]
 have hnil:VR σ (.tup []) (.tuple #[]):=.tup (us:=[]) rfl (λi c u hi=>by simp at hi); simp only [evK] at hv
 split at hv
 ·rename_i kv e1
  have hku:=keyOf_sound h2 e1
  split at hv
  ·rename_i hfit
   split at hv
   ·rename_i e0
    rw [e0] at h1
    cases hv
    obtain ⟨c1,_⟩:=keyFits_stays hkt hfit true w; refine .pure h (hrun ?_) hnil
    cases hp:a.eval x with
    | map r =>
     rw [hp] at h1
     cases h1
     simp [Builtin.delete_,run_underlying hu,hku,c1]
    | _=>rw [hp] at h1; cases h1
   ·rename_i b e0
    rw [e0] at h1
    split at hv
    ·rename_i kt' ck es hb
     split at hv
     ·rename_i hkk
      subst hkk
      cases hv
      cases hp:a.eval x with
      | map r =>
       rw [hp] at h1
       cases h1 with
       | mp hφ =>
        obtain ⟨ms,hg,hmr⟩:=h.mapAt hb hφ; obtain ⟨c1,_⟩:=keyFits_stays hkt hfit ms.isEmpty w; rcases find_sound (P:=P) (w:=w) hkt hmr hfit with ⟨f1,f2,f3⟩ | ⟨j,e',m,f1,f2,f3,f4,f5,f6,f7,f8,f9⟩
        ·obtain ⟨x1,x2⟩:=h.setMapTo (ck':=ck) hb hφ hmr
         rw [mapDel_none f2]; refine ⟨σ,_,_,.inl (hrun ?_),x1,x2,hnil⟩; simp [Builtin.delete_,run_underlying hu,hku,hp,run_getObj_map hg] at c1 f1 ⊢; simp [c1,f1,run_setObj_map hg]
        ·have hr3:MR σ kt' (es.eraseIdx j) (ms.eraseIdxIfInBounds j).toList:=by rw [Array.toList_eraseIdxIfInBounds]; exact hmr.erase
         obtain ⟨x1,x2⟩:=h.setMapTo (ck':=ck) hb hφ hr3; rw [mapDel_eq f5]; refine ⟨σ,_,_,.inl (hrun ?_),x1,x2,hnil⟩; simp [Builtin.delete_,run_underlying hu,hku,hp,run_getObj_map hg] at c1 f1 ⊢; simp [c1,f1,run_setObj_map hg]
      | _=>rw [hp] at h1; cases h1
     ·cases hv
    ·cases hv
   ·cases hv
  ·cases hv
 ·cases hv
theorem ktOf_wide {t:TypeId} {kt:KT} (hw:wideT P t = true) (h:ktOf P t = some kt):P.keyType t = true/\P.types.size + 2<=10000/\P.eqGuardType P.depth t = false/\(∃ kk,kt = ⟨true,kk⟩):=by
 unfold ktOf at h
 split at h
 ·rename_i hs
  unfold isStrT at hs
  unfold wideT at hw
  split at hs
  ·rename_i hu; simp [hu] at hw
  ·cases hs
 ·split at h
  ·rename_i _ hc
   simp only [Bool.and_eq_true,decide_eq_true_eq] at hc; obtain ⟨⟨⟨⟨_,hk⟩,_⟩,hsz⟩,hg⟩:=hc; simp only [Option.map_eq_some_iff] at h; obtain ⟨kk,_,rfl⟩:=h; exact ⟨hk,hsz,by simpa using hg,kk,rfl⟩
  ·cases h
theorem ok_eqg {neg:Bool} {t t':TypeId} {x y:Operand} {x' y':Opd} {kt:KT} {v:AV} {H':List ABlk} (ho:o.op = .binOp (if neg then .neq else .eql) t x y t') (hw:wideT P t = true) (ht:ktOf P t = some kt) (hx:opd x = some x') (hy:opd y = some y') (hs:SS σ s a) (h:HR σ H w)
 (hv:evK (.eqg kt neg x' y') s H = some (v,H')):OpOk P o a σ H w v H':=by
 have h1:=get_sound hx hs; have h2:=get_sound hy hs; simp only [evK] at hv
 split at hv
 ·rename_i va vb e1 e2
  have hu1:=keyOf_sound h1 e1; have hu2:=keyOf_sound h2 e2
  split at hv
  ·rename_i hfit
   cases hv
   obtain ⟨hk,hsz,hg,kk,rfl⟩:=ktOf_wide hw ht; obtain ⟨law,hf⟩:=ktOf_law ht; obtain ⟨l1,hl1⟩:=hf va hfit.1; obtain ⟨l2,hl2⟩:=hf vb hfit.2; have hwide:(match P.underlying t with | some (.array _ _) | some (.struct _)=>true | _=>false) = true:=hw; obtain ⟨r,hr,hiff⟩:=run_equal_deep (P:=P) w (m:=P.types.size + 1) (by omega) hk hwide hl1 hl2; have hreq:r = keq va vb:=by
    have:r = true ↔ keq va vb = true:=by
     rw [hiff,keq_iff hfit.1 hfit.2]; exact ⟨λhl=>law.inj (hl ▸ hl1) hl2,λhl=>by subst hl; rw [hl1] at hl2; cases hl2; rfl⟩
    cases r <;> cases hq:keq va vb <;> simp_all
   subst hreq; refine .pure h ?_ (VR.mk_bool _); obtain ⟨xs,rfl⟩:∃ xs,va = .agg xs:=by
    cases va with
    | agg xs=>exact ⟨xs,rfl⟩
    | _=>have:=hfit.1; cases kk <;> simp [keyFits] at this
   obtain ⟨ys,rfl⟩:∃ ys,vb = .agg ys:=by
    cases vb with
    | agg xs=>exact ⟨xs,rfl⟩
    | _=>have:=hfit.2; cases kk <;> simp [keyFits] at this
   cases neg <;> simp only [if_true,Bool.false_eq_true,if_false] at ho ⊢ <;> simp [execOp,ho,hu1,hu2,eqGuard,hg,binOp,hr]
  ·cases hv
 ·cases hv
theorem run_equal_nilS {t e:TypeId} (ht:P.underlying t = some (.slice e)) (a:Option Addr) (n c:Nat) (w:World):(Op.equal t (.slice a n c) (.slice none 0 0)).run P w = .ok a.isNone w:=by
 have key:∀ d:Nat,(Op.equalIn (d + 1) t (.slice a n c) (.slice none 0 0)).run P w = .ok a.isNone w:=λd=>by
  cases a <;> simp [Op.equalIn,run_underlying ht]
 exact key 9999
theorem run_equal_nilM {t k e:TypeId} (ht:P.underlying t = some (.map k e)) (a:Option Nat) (w:World):(Op.equal t (.map a) (.map none)).run P w = .ok a.isNone w:=by
 have key:∀ d:Nat,(Op.equalIn (d + 1) t (.map a) (.map none)).run P w = .ok a.isNone w:=λd=>by
  cases a <;> simp [Op.equalIn,run_underlying ht]
 exact key 9999
theorem ok_isnS {neg:Bool} {t t':TypeId} {x y:Operand} {x':Opd} {v:AV} {H':List ABlk} (ho:o.op = .binOp (if neg then .neq else .eql) t x y t') (ht:(elOf P t).isSome = true) (hy:isNilS y = true) (hx:opd x = some x') (hs:SS σ s a) (h:HR σ H w)
 (hv:evK (.isn false neg x') s H = some (v,H')):OpOk P o a σ H w v H':=by
 have h1:=get_sound hx hs; have hyv:a.eval y = .slice none 0 0:=by
  unfold isNilS at hy
  split at hy
  ·rfl
  ·cases hy
 obtain ⟨e,he⟩:=Option.isSome_iff_exists.1 ht; have hte:P.underlying t = some (.slice e):=by
  unfold elOf at he
  simp only [Option.bind_eq_some_iff] at he; obtain ⟨d,hd,he⟩:=he
  split at he
  ·cases he; exact hd
  ·cases he
 have hrun:∀ ad n c,a.eval x = .slice ad n c->(execOp a.eval o).run P w = .ok (.value (.bool (if neg then !ad.isNone else ad.isNone))) w:=λad n c hu=>by
  cases neg <;> simp only [if_true,Bool.false_eq_true,if_false] at ho ⊢ <;> simp [execOp,ho,hu,hyv,eqGuard,binOp,run_equal_nilS hte]
 simp only [evK] at hv
 split at hv
 ·rename_i v' e1
  cases hv
  generalize hX:get s x' = X at h1 e1
  simp only [nilA,Bool.false_eq_true,if_false] at e1; have some_case:∀ (ad:Addr) n c,a.eval x = .slice (some ad) n c->OpOk P o a σ H w (.d (.v (.bool neg))) H:=λad n c hu=>by
   have:=hrun _ n c hu; refine .pure h this ?_
   cases neg <;> exact VR.mk_bool _
  have any_case:∀ ad n c,a.eval x = .slice ad n c->OpOk P o a σ H w .ub H:=λad n c hu=>.pure h (hrun ad n c hu) .ub
  split at e1 <;> cases e1
  ·obtain ⟨ad,hu⟩:=h1.esl_inv; exact any_case _ _ _ hu
  ·cases h1 with
   | d hd=>obtain ⟨ad,c,hu,_⟩:=hd.sl_cells; exact any_case _ _ _ hu
  ·cases h1 with
   | d hd =>
    obtain ⟨ad,c,hu,_,hc⟩:=hd.sl_cells; obtain ⟨_,ad',_,rfl,_⟩:=hc (by simp); exact some_case _ _ _ hu
  ·cases h1 with
   | gsl _ _ hd=>obtain ⟨ad,c,hu,_⟩:=hd.sl_cells; exact any_case _ _ _ hu
  ·cases h1 with
   | gsl _ _ hd =>
    obtain ⟨ad,c,hu,_,hc⟩:=hd.sl_cells; obtain ⟨_,ad',_,rfl,_⟩:=hc (by simp); exact some_case _ _ _ hu
  ·generalize hp:a.eval x = p at h1
   cases h1 with
   | hsl=>exact any_case _ _ _ hp
   | hsl0=>exact any_case _ _ _ hp
  ·generalize hp:a.eval x = p at h1
   cases h1 with
   | hsl=>exact some_case _ _ _ hp
 ·cases hv
theorem run_equal_nilI {t:TypeId} {ms:Array (String × TypeId)} (ht:P.underlying t = some (.interface ms)) (w:World):(Op.equal t .nilIface .nilIface).run P w = .ok true w:=by
 have key:∀ d:Nat,(Op.equalIn (d + 1) t .nilIface .nilIface).run P w = .ok true w:=λd=>by
  simp [Op.equalIn,run_underlying ht]
 exact key 9999
theorem run_equal_ifcI {t:TypeId} {ms:Array (String × TypeId)} (ht:P.underlying t = some (.interface ms)) (t1:TypeId) (u1:Value) (w:World):(Op.equal t (.iface t1 u1) .nilIface).run P w = .ok false w:=by
 have key:∀ d:Nat,(Op.equalIn (d + 1) t (.iface t1 u1) .nilIface).run P w = .ok false w:=λd=>by
  simp [Op.equalIn,run_underlying ht]
 exact key 9999
theorem ok_eqi {neg:Bool} {t t':TypeId} {x y:Operand} {x':Opd} {v:AV} {H':List ABlk} (ho:o.op = .binOp (if neg then .neq else .eql) t x y t') (ht:(ifaceT P t && isNilI y) = true) (hx:opd x = some x') (hs:SS σ s a) (h:HR σ H w)
 (hv:evK (.eqi neg x') s H = some (v,H')):OpOk P o a σ H w v H':=by
 have h1:=get_sound hx hs; rw [Bool.and_eq_true] at ht; obtain ⟨ht,hy⟩:=ht; have hy2:y = .const .nilIface:=by
  unfold isNilI at hy
  split at hy
  ·rfl
  ·cases hy
 subst hy2; have hte:∃ ms,P.underlying t = some (.interface ms):=by
  unfold ifaceT at ht
  split at ht
  ·exact ⟨_,by assumption⟩
  ·cases ht
 obtain ⟨ms,hte⟩:=hte; simp only [evK] at hv
 split at hv
 ·rename_i v' e1
  cases hv
  generalize hX:get s x' = X at h1 e1
  unfold nilI at e1
  split at e1
  ·cases e1
   have hu:a.eval x = .nilIface:=by
    generalize a.eval x = u at h1
    cases h1 with | d hd=>cases hd with | v hp=>rfl
   refine .pure h (u:=.bool (!neg)) ?_ (VR.mk_bool _); have he:a.eval (.const .nilIface) = .nilIface:=rfl
   cases neg <;> simp only [if_true,Bool.false_eq_true,if_false] at ho ⊢ <;> simp [execOp,ho,hu,he,eqGuard,binOp,run_equal_nilI hte]
  ·cases e1
   obtain ⟨t1,u1,hu⟩:∃ t1 u1,a.eval x = .iface t1 u1:=by
    generalize a.eval x = u at h1
    cases h1 with | ifc hd=>exact ⟨_,_,rfl⟩
   refine .pure h (u:=.bool neg) ?_ (VR.mk_bool _); have he:a.eval (.const .nilIface) = .nilIface:=rfl
   cases neg <;> simp only [if_true,Bool.false_eq_true,if_false] at ho ⊢ <;> simp [execOp,ho,hu,he,eqGuard,binOp,run_equal_ifcI hte]
  ·cases e1
 ·cases hv
theorem concT_spec {t:TypeId} (h:concT P t = true):∃ d,P.underlying t = some d/\∀ ms,d ≠ .interface ms:=by
 unfold concT at h
 split at h
 ·cases h
 ·rename_i d hne hd
  exact ⟨d,hd,λms e=>hne ms e⟩
 ·cases h
theorem ok_mki {t:TypeId} {x:Operand} {x':Opd} (ho:o.op = .makeInterface t x) (ht:concT P t = true) (hx:opd x = some x') (hs:SS σ s a) (h:HR σ H w):OpOk P o a σ H w (.ifc t (get s x')) H:=by
 obtain ⟨d,hd,hne⟩:=concT_spec ht; refine .pure h (u:=.iface t (a.eval x)) ?_ (.ifc (get_sound hx hs))
 cases d <;> first | (exact absurd rfl (hne _)) | simp [execOp,ho,Instr.makeInterface,run_underlying hd]
theorem zeroAV_spec {t:TypeId} {z:AV} (h:zeroAV P t = some z):∃ zv,(∀ w,(zeroValue t).run P w = .ok zv w)/\∀ σ,VR σ z zv:=by
 unfold zeroAV at h
 simp only [Option.bind_eq_some_iff] at h; obtain ⟨zv,⟨i,hi,hz⟩,hm⟩:=h; exact ⟨zv,λw=>run_zeroValue hi hz w,λσ=>cst_sound hm⟩
theorem ok_tas {t xt:TypeId} {x:Operand} {x':Opd} {z v:AV} {okk:Bool} {H':List ABlk} (ho:o.op = .typeAssert x xt t okk) (ht:concT P t = true) (hz:zeroAV P t = some z) (hx:opd x = some x') (hs:SS σ s a) (h:HR σ H w)
 (hv:evK (.tas t z x' okk) s H = some (v,H')):OpOk P o a σ H w v H':=by
 have h1:=get_sound hx hs; obtain ⟨d,hd,hne⟩:=concT_spec ht; obtain ⟨zv,hz1,hz2⟩:=zeroAV_spec hz; have hd1:∀ (u:Value) (w:World),(Instr.typeAssert u xt t okk).run P w = (match u with
  | .nilIface => (if okk then do pure (.tuple #[<- zeroValue t, .bool false]) else runtimePanic (.typeAssertion (some xt) none t "") : Sem Value)
  | .iface t1 v1 => if t1 = t then pure (if okk then .tuple #[v1, .bool true] else v1) else (if okk then do pure (.tuple #[<- zeroValue t, .bool false]) else runtimePanic (.typeAssertion (some xt) (some t1) t ""))
  | _ => stuck "TypeAssert: interface value expected").run P w := fun u w => by
  cases d <;> first | (exact absurd rfl (hne _)) | (cases u <;> simp [Instr.typeAssert,run_underlying hd])
 have htup:∀ {x y:AV} {u v:Value},VR σ x u->VR σ y v->VR σ (.tup [x,y]) (.tuple #[u,v]):=λh1 h2=>by
  have:=VRs.cons h1 (.cons h2 .nil); exact .tup (us:=[_,_]) this.1 this.2
 simp only [evK] at hv
 generalize hX:get s x' = X at h1 hv
 generalize hU:a.eval x = u at h1
 split at hv
 ·rename_i t1 v1
  cases h1 with
  | ifc hv1 =>
   rename_i u1
   split at hv
   ·rename_i he
    cases hv
    subst he
    cases okk
    ·exact .pure h (u:=u1) (by simp [execOp,ho,hU,hd1]) hv1
    ·exact .pure h (u:=.tuple #[u1,.bool true]) (by simp [execOp,ho,hU,hd1]) (htup hv1 (VR.mk_bool _))
   ·rename_i hne1
    split at hv
    ·rename_i hok
     cases hv
     subst hok; exact .pure h (u:=.tuple #[zv,.bool false]) (by simp [execOp,ho,hU,hd1,hne1,hz1]) (htup (hz2 σ) (VR.mk_bool _))
    ·cases hv
 ·cases h1 with
  | d hd2=>cases hd2 with
   | v hp =>
    split at hv
    ·rename_i hok
     cases hv
     subst hok; exact .pure h (u:=.tuple #[zv,.bool false]) (by simp [execOp,ho,hU,hd1,hz1]) (htup (hz2 σ) (VR.mk_bool _))
    ·cases hv
 ·cases hv
theorem ok_mkb {f:FuncId} {first caps:Array Operand} {ys:List Opd} (ho:o.op = .makeFunc (.func f) first caps) (h0:caps.isEmpty = true) (hy:opds first.toList = some ys) (hs:SS σ s a) (h:HR σ H w) :
 OpOk P o a σ H w (.fnb f (ys.map (get s))) H:=by
 have h0':caps = #[]:=by simpa using h0
 have h1:=opds_sound hs hy; refine .pure h (u:=.func (.func f) (first.toList.map a.eval).toArray #[]) ?_ (.fnb h1.1 h1.2); simp [execOp,ho,h0',Instr.makeFunc]
 apply Array.ext'
 simp
theorem ok_mlen {c:Call} {t k e:TypeId} {x:Operand} {x':Opd} {v:AV} {H':List ABlk} (ho:o.op = .call c) (hc:c.callee = .builtin .len) (hT:c.argTypes.toList = [t]) (hA:c.args.toList = [x]) (ht:P.underlying t = some (.map k e)) (hx:opd x = some x')
 (hs:SS σ s a) (h:HR σ H w) (hv:evK (.mlen x') s H = some (v,H')):OpOk P o a σ H w v H':=by
 have hT':c.argTypes = #[t]:=by rw [<- Array.toArray_toList (xs:=c.argTypes),hT]
 have hA':c.args = #[x]:=by rw [<- Array.toArray_toList (xs:=c.args),hA]
 have h1:=get_sound hx hs; simp only [evK] at hv
 generalize hX:get s x' = X at h1 hv
 generalize hU:a.eval x = u at h1
 split at hv
 ·cases hv
  cases h1
  refine .pure h (u:=.int .i64 0) ?_ (VR.mk_int _ _); simp [execOp,ho,resolve,hc,hA',hT',invoke,builtin,Builtin.len_,run_underlying ht,hU,goInt]
 ·rename_i b
  split at hv
  ·rename_i kt ck es hb
   cases hv
   cases h1 with
   | mp hφ =>
    obtain ⟨ms,hg,hmr⟩:=h.mapAt hb hφ; have hl:es.length = ms.size:=by
     have:=congrArg List.length hmr.keys
     simpa using this.symm
    refine .pure h (u:=.int .i64 es.length) ?_ (VR.mk_int _ _); simp [execOp,ho,resolve,hc,hA',hT',invoke,builtin,Builtin.len_,run_underlying ht,hU,goInt,run_getObj_map hg,hl]
  ·cases hv
 ·cases hv
theorem ok_isnM {neg:Bool} {t t':TypeId} {x y:Operand} {x':Opd} {v:AV} {H':List ABlk} (ho:o.op = .binOp (if neg then .neq else .eql) t x y t') (ht:(mapT P t).isSome = true) (hy:isNilM y = true) (hx:opd x = some x') (hs:SS σ s a) (h:HR σ H w)
 (hv:evK (.isn true neg x') s H = some (v,H')):OpOk P o a σ H w v H':=by
 have h1:=get_sound hx hs; have hyv:a.eval y = .map none:=by
  unfold isNilM at hy
  split at hy
  ·rfl
  ·cases hy
 obtain ⟨⟨k,e⟩,he⟩:=Option.isSome_iff_exists.1 ht; have hte:=mapT_spec he; have hrun:∀ r,a.eval x = .map r->(execOp a.eval o).run P w = .ok (.value (.bool (if neg then !r.isNone else r.isNone))) w:=λr hu=>by
  cases neg <;> simp only [if_true,Bool.false_eq_true,if_false] at ho ⊢ <;> simp [execOp,ho,hu,hyv,eqGuard,binOp,run_equal_nilM hte]
 simp only [evK] at hv
 split at hv
 ·rename_i v' e1
  cases hv
  generalize hX:get s x' = X at h1 e1
  simp only [nilA,if_true] at e1
  generalize hp:a.eval x = p at h1
  split at e1 <;> cases e1
  ·cases h1
   have:=hrun _ hp; refine .pure h this ?_
   cases neg <;> exact VR.mk_bool _
  ·cases h1
   have:=hrun _ hp; refine .pure h this ?_
   cases neg <;> exact VR.mk_bool _
 ·cases hv
theorem arT_spec {t e:TypeId} {n:Nat} (h:arT P t = some (n,e)):P.underlying t = some (.array n e):=by
 unfold arT at h
 simp only [Option.bind_eq_some_iff] at h; obtain ⟨d,hd,h⟩:=h
 split at h
 ·cases h; exact hd
 ·cases h
theorem fillAr_sound {n sz:Nat} (hs:SS σ s a):∀ {ps:List (Nat × Operand)} {ps':List (Nat × Nat × Opd)} {z zs:List AV} {zv:Array Value},partsAr P n sz ps = some ps'->VRs σ z zv.toList->fillA z (ps'.map λp=>(p.1,p.2.1,get s p.2.2)) = some zs ->
 ∃ r,Instr.fill (λi=>some (i * sz,sz)) zv (ps.map λp=>(p.1,a.eval p.2)) = some r/\VRs σ zs r.toList
 | [],ps',z,zs,zv,hps,hz,hf=>by
  simp [partsAr] at hps; subst hps; simp [fillA] at hf; subst hf; exact ⟨zv,rfl,hz⟩
 | (i,x) :: ps,ps',z,zs,zv,hps,hz,hf=>by
  simp only [partsAr] at hps
  split at hps
  ·rename_i y r' e2 e3
   split at hps
   ·cases hps
    simp only [List.map_cons,fillA] at hf
    split at hf
    ·rename_i hc
     simp only [Bool.and_eq_true,beq_iff_eq,decide_eq_true_eq] at hc; obtain ⟨⟨c1,c2⟩,c3⟩:=hc; have hv:=cellsAV_sound (get_sound e2 hs) c1; have hvl:=hv.1; have hzl:=hz.1; simp only [Array.length_toList] at hvl hzl; have hsz:(a.eval x).cells.size = sz:=by omega
     have hsp:=fold_splice (i * sz) (a.eval x).cells.toList zv (by simp; omega); obtain ⟨r,hr,hrv⟩:=fillAr_sound hs (zv:=((a.eval x).cells.toList.zipIdx 0).foldl (λcs (x:Value × Nat)=>cs.setIfInBounds (i * sz + x.2) x.1) zv) e3 (by
      rw [hsp]; have:=((hz.take (i * sz)).append hv).append (hz.drop (i * sz + (cellsAV (get s y)).length)); rw [hvl] at this
      simpa [splice,hvl] using this) hf
     refine ⟨r,?_,hrv⟩; simp only [List.map_cons]
     unfold Instr.fill
     simp only [hsz]; rw [if_neg (by simp; omega),<- hr]
     congr 1
     rw [<- Array.foldl_toList,Array.toList_zipIdx]
    ·cases hf
   ·cases hps
  ·cases hps
theorem ok_bdA {t e:TypeId} {ps:Array (Nat × Operand)} {n sz:Nat} {z zs:List AV} {ps':List (Nat × Nat × Opd)} (ho:o.op = .build t ps) (ht:P.underlying t = some (.array n e)) (hz:zeroOf P t = some z) (hsz:szOf P e = some sz)
 (hps:partsAr P n sz ps.toList = some ps') (hs:SS σ s a) (h:HR σ H w) (hf:fillA z (ps'.map λp=>(p.1,p.2.1,get s p.2.2)) = some zs) :
 OpOk P o a σ H w (.agg zs) H:=by
 obtain ⟨i,zv,hi,hzv,hv⟩:=zeroOf_spec hz; obtain ⟨r,hr,hrv⟩:=fillAr_sound (P:=P) hs hps (hv σ) hf; refine .pure h (u:=.agg r) ?_ (by obtain ⟨l⟩:=r; exact .agg hrv.1 hrv.2); simp [execOp,ho,Instr.build,run_zeroValue hi hzv,run_underlying ht,szOf_run hsz,hr]
end
end Go.Proofs.YtofpekbidngnfaaGreatDoor
