/-
  One's own library, part 22: the quick evaluator is right: trees, places, lists, the heap.
-/
import Derived.Test.YtofpekbidngnfaaGreatDoorYFf
import Derived.Test.YtofpekbidngnfaaGreatDoorYSet
set_option linter.constructorNameAsVariable false
set_option linter.unusedSectionVars false
set_option linter.unusedSimpArgs false
set_option linter.unusedVariables false
namespace Go.Proofs.YtofpekbidngnfaaGreatDoor
open Go.RowKit
noncomputable section
theorem r8get_set {α:Type} (d:D8) (k:α->α) (t:R8 α):r8get d (r8set d k t) = k (r8get d t):=by cases t; cases d <;> rfl
theorem r8get_ne {α:Type} {d e:D8} (h:e ≠ d) (k:α->α) (t:R8 α):r8get e (r8set d k t) = r8get e t:=by
 cases t; cases d <;> cases e <;> first | rfl | exact absurd rfl h
theorem n8_lt (d:D8):n8 d < 8:=by cases d <;> decide
theorem d8_n8 (d:D8):d8 (n8 d) = d:=by cases d <;> rfl
theorem n8_d8 {m:Nat} (h:m < 8):n8 (d8 m) = m:=by
 match m,h with
 | 0,_ | 1,_ | 2,_ | 3,_ | 4,_ | 5,_ | 6,_ | 7,_=>rfl
theorem num_mk (a b c d e:D8):num (.mk a b c d e) = n8 a * 4096 + (n8 b * 512 + (n8 c * 64 + (n8 d * 8 + n8 e))):=rfl
theorem pth_num (p:Pth):pth (num p) = p:=by
 obtain ⟨a,b,c,d,e⟩:=p; rw [num_mk]; have ha:=n8_lt a; have hb:=n8_lt b; have hc:=n8_lt c; have hd:=n8_lt d; have he:=n8_lt e
 show Pth.mk (d8 ((n8 a * 4096 + (n8 b * 512 + (n8 c * 64 + (n8 d * 8 + n8 e)))) / 4096 % 8)) (d8 ((n8 a * 4096 + (n8 b * 512 + (n8 c * 64 + (n8 d * 8 + n8 e)))) / 512 % 8)) (d8 ((n8 a * 4096 + (n8 b * 512 + (n8 c * 64 + (n8 d * 8 + n8 e)))) / 64 % 8)) (d8 ((n8 a * 4096 + (n8 b * 512 + (n8 c * 64 + (n8 d * 8 + n8 e)))) / 8 % 8)) (d8 ((n8 a * 4096 + (n8 b * 512 + (n8 c * 64 + (n8 d * 8 + n8 e)))) % 8)) = _
 rw [show (n8 a * 4096 + (n8 b * 512 + (n8 c * 64 + (n8 d * 8 + n8 e)))) / 4096 % 8 = n8 a by omega,show (n8 a * 4096 + (n8 b * 512 + (n8 c * 64 + (n8 d * 8 + n8 e)))) / 512 % 8 = n8 b by omega,
  show (n8 a * 4096 + (n8 b * 512 + (n8 c * 64 + (n8 d * 8 + n8 e)))) / 64 % 8 = n8 c by omega,show (n8 a * 4096 + (n8 b * 512 + (n8 c * 64 + (n8 d * 8 + n8 e)))) / 8 % 8 = n8 d by omega,
  show (n8 a * 4096 + (n8 b * 512 + (n8 c * 64 + (n8 d * 8 + n8 e)))) % 8 = n8 e by omega]
 simp only [d8_n8]
theorem num_pth {n:Nat} (h:n < 32768):num (pth n) = n:=by
 show n8 (d8 (n / 4096 % 8)) * 4096 + (n8 (d8 (n / 512 % 8)) * 512 + (n8 (d8 (n / 64 % 8)) * 64 + (n8 (d8 (n / 8 % 8)) * 8 + n8 (d8 (n % 8))))) = n
 simp only [n8_d8 (Nat.mod_lt _ (by decide:0 < 8))]; omega
theorem ap_r8g {α β:Type} (d:D8) (k:(R8 α->α)->β):ap k (r8g d) = k (r8get d):=by
 have e:r8g (α:=α) d = ⟨r8get d⟩:=by cases d <;> rfl
 rw [e]; rfl
theorem ap_r8s {α β:Type} (d:D8) (k:((α->α)->R8 α->R8 α)->β):ap k (r8s d) = k (r8set d):=by
 have e:r8s (α:=α) d = ⟨r8set d⟩:=by cases d <;> rfl
 rw [e]; rfl
theorem hget_eq (a b c d e:D8) (t:HT):hget (.mk a b c d e) t = r8get e (r8get d (r8get c (r8get b (r8get a t)))):=by
 show ap (λf=>f t) (ap (λa=>ap (λb=>ap (λc=>ap (λd=>ap (λe=>(⟨λt=>e (d (c (b (a t))))⟩:Clo (HT->FB))) (r8g e)) (r8g d)) (r8g c)) (r8g b)) (r8g a)) = _
 rw [ap_r8g,ap_r8g,ap_r8g,ap_r8g,ap_r8g]; rfl
theorem hset_eq (x:FB) (a b c d e:D8) (t:HT):hset x (.mk a b c d e) t = r8set a (r8set b (r8set c (r8set d (r8set e (λ_=>x))))) t:=by
 show ap (λf=>f x t) (ap (λa=>ap (λb=>ap (λc=>ap (λd=>ap (λe=>(⟨λx t=>a (b (c (d (e λ_=>x)))) t⟩:Clo (FB->HT->HT))) (r8s e)) (r8s d)) (r8s c)) (r8s b)) (r8s a)) = _
 rw [ap_r8s,ap_r8s,ap_r8s,ap_r8s,ap_r8s]; rfl
theorem hget_set (p:Pth) (x:FB) (t:HT):hget p (hset x p t) = x:=by
 obtain ⟨a,b,c,d,e⟩:=p; simp only [hget_eq,hset_eq,r8get_set]
theorem hget_ne {p q:Pth} (h:q ≠ p) (x:FB) (t:HT):hget q (hset x p t) = hget q t:=by
 obtain ⟨a,b,c,d,e⟩:=p; obtain ⟨a',b',c',d',e'⟩:=q; simp only [hget_eq,hset_eq]
 by_cases h1:a' = a
 ·subst h1
  rw [r8get_set]
  by_cases h2:b' = b
  ·subst h2
   rw [r8get_set]
   by_cases h3:c' = c
   ·subst h3
    rw [r8get_set]
    by_cases h4:d' = d
    ·subst h4
     rw [r8get_set]
     by_cases h5:e' = e
     ·subst h5; exact absurd rfl h
     ·rw [r8get_ne h5]
    ·rw [r8get_ne h4]
   ·rw [r8get_ne h3]
  ·rw [r8get_ne h2]
 ·rw [r8get_ne h1]
theorem slot_eq (n:Nat) (t:Fr):slot n t = r8get (d8 (n % 8)) (r8get (d8 (n / 8 % 8)) (r8get (d8 (n / 64 % 8)) t)):=by
 show ap (λf:Fr->FV=>f t) (slg n) = _
 rw [show slg n = ap (λf=>ap (λg=>ap (λe=>(⟨λt=>e (g (f t))⟩:Clo (Fr->FV))) (r8g (d8 (n % 8)))) (r8g (d8 (n / 8 % 8)))) (r8g (d8 (n / 64 % 8))) from rfl,ap_r8g,ap_r8g,ap_r8g]
 rfl
theorem slotS_eq (n:Nat) (v:FV) (t:Fr):slotS n v t = r8set (d8 (n / 64 % 8)) (r8set (d8 (n / 8 % 8)) (r8set (d8 (n % 8)) (λ_=>v))) t:=by
 show ap (λf:FV->Fr->Fr=>f v t) (sls n) = _
 rw [show sls n = ap (λf=>ap (λg=>ap (λe=>(⟨λv t=>f (g (e (λ_=>v))) t⟩:Clo (FV->Fr->Fr))) (r8s (d8 (n % 8)))) (r8s (d8 (n / 8 % 8)))) (r8s (d8 (n / 64 % 8))) from rfl,ap_r8s,ap_r8s,ap_r8s]
 rfl
theorem slot_set (n:Nat) (v:FV) (t:Fr):slot n (slotS n v t) = v:=by rw [slot_eq,slotS_eq,r8get_set,r8get_set,r8get_set]
theorem slot_ne {n m:Nat} (hn:n < 512) (hm:m < 512) (h:m ≠ n) (v:FV) (t:Fr):slot m (slotS n v t) = slot m t:=by
 rw [slot_eq,slotS_eq,slot_eq]; have inj:∀ {a b:Nat},a < 8->b < 8->d8 a = d8 b->a = b:=λha hb e=>by rw [<- n8_d8 ha,<- n8_d8 hb,e]
 have lt:∀ a,a % 8 < 8:=λa=>Nat.mod_lt _ (by decide)
 by_cases h1:d8 (m / 64 % 8) = d8 (n / 64 % 8)
 ·rw [h1,r8get_set]
  by_cases h2:d8 (m / 8 % 8) = d8 (n / 8 % 8)
  ·rw [h2,r8get_set]
   by_cases h3:d8 (m % 8) = d8 (n % 8)
   ·have:=inj (lt _) (lt _) h1; have:=inj (lt _) (lt _) h2; have:=inj (lt _) (lt _) h3
    omega
   ·rw [r8get_ne h3]
  ·rw [r8get_ne h2]
 ·rw [r8get_ne h1]
structure FrR (t:Fr) (s:List AV):Prop where
 len:s.length<=512
 at':∀ n,n < s.length->s.getD n .any = toA (slot n t)
theorem FrR.set {t:Fr} {s:List AV} (h:FrR t s) {n:Nat} (hn:n < 512) (v:FV):FrR (slotS n v t) (setO s (some n) (toA v)):=by
 refine ⟨by simp [setO,h.len],λm hm=>?_⟩; simp only [setO,List.length_set] at hm ⊢
 by_cases e:m = n
 ·subst e
  rw [slot_set,gDd,List.getElem?_set_self hm]; rfl
 ·rw [slot_ne hn (Nat.lt_of_lt_of_le hm h.len) e,<- h.at' m hm,gDd,List.getElem?_set_ne (Ne.symm e),<- gDd]
theorem toAs_length:∀ (l:List FV),(toAs l).length = l.length
 | []=>rfl
 | a :: l=>by simp [toAs,toAs_length l]
theorem toAs_eq:∀ (l:List FV),toAs l = l.map toA
 | []=>rfl
 | a :: l=>by simp [toAs,toAs_eq l]
theorem lnth_eq (z:FV):∀ (l:List FV) (n:Nat),lnth z l n = l.getD n z
 | [],n=>by simp [lnth]
 | a :: l,0=>rfl
 | a :: l,n + 1=>by
  have:=lnth_eq z l n
  show lnth z l n = _
  rw [this]; simp
theorem lenL_eq:∀ (l:List FV) (n:Nat),lenL l n = n + l.length
 | [],n=>rfl
 | a :: l,n=>by
  show lenL l (n + 1) = _
  rw [lenL_eq l,List.length_cons]; omega
theorem appL_eq:∀ (l r:List FV),appL l r = l ++ r
 | [],r=>rfl
 | a :: l,r=>by
  show a :: appL l r = _
  rw [appL_eq l r]; rfl
theorem drpN_eq:∀ (n:Nat) (l:List FV),drpN n l = l.drop n
 | 0,l=>rfl
 | n + 1,[]=>by
  show lcs [] (λ_ b=>drpN n b) [] = _
  simp [lcs]
 | n + 1,a :: l=>by
  show drpN n l = _
  rw [drpN_eq n l]; rfl
def padL (z:FV) (n:Nat) (l:List FV):List AV:=(List.range n).map λi=>toA (l.getD i z)
theorem padL_length (z:FV) (n:Nat) (l:List FV):(padL z n l).length = n:=by simp [padL]
theorem padL_get (z:FV) (n:Nat) (l:List FV) (i:Nat):(padL z n l)[i]? = if i < n then some (toA (l.getD i z)) else none:=by
 simp only [padL,List.getElem?_map]
 by_cases h:i < n
 ·rw [if_pos h,List.getElem?_range h]; rfl
 ·rw [if_neg h,List.getElem?_eq_none (by simpa using h)]; rfl
theorem padL_full {z:FV} {l:List FV} {n:Nat} (h:l.length = n):padL z n l = toAs l:=by
 subst h; refine List.ext_getElem? λi=>?_
 rw [padL_get,toAs_eq,List.getElem?_map]
 by_cases h:i < l.length
 ·rw [if_pos h,gDd,gEe h]; rfl
 ·rw [if_neg h,List.getElem?_eq_none (Nat.le_of_not_lt h)]; rfl
theorem takN_get (z:FV):∀ (n:Nat) (l:List FV) (i:Nat),(takN z n l)[i]? = if i < n then some (l.getD i z) else none
 | 0,l,i=>by
  show ([]:List FV)[i]? = _
  simp
 | n + 1,[],i=>by
  show (z :: takN z n [])[i]? = _
  cases i with
  | zero=>simp
  | succ i =>
   rw [List.getElem?_cons_succ,takN_get z n [] i]
   simp
 | n + 1,a :: l,i=>by
  show (a :: takN z n l)[i]? = _
  cases i with
  | zero=>simp
  | succ i =>
   rw [List.getElem?_cons_succ,takN_get z n l i]
   simp
theorem takN_length (z:FV) (n:Nat) (l:List FV):(takN z n l).length = n:=by
 have h1:∀ i,(takN z n l)[i]? = none ↔ n<=i:=λi=>by
  rw [takN_get]; by_cases h:i < n <;> simp [h]; omega
 have h2:=(h1 (takN z n l).length).1 (by simp)
 by_cases h:(takN z n l).length = n
 ·exact h
 ·have h4:=(h1 n).2 (Nat.le_refl _)
  rw [List.getElem?_eq_none_iff] at h4; omega
theorem toAs_takN (z:FV) (n o m:Nat) (l:List FV) (h:o + n<=m):toAs (takN z n (drpN o l)) = ((padL z m l).drop o).take n:=by
 refine List.ext_getElem? λi=>?_
 rw [toAs_eq,List.getElem?_map,takN_get,drpN_eq,List.getElem?_take,List.getElem?_drop]
 by_cases hi:i < n
 ·rw [if_pos hi,if_pos hi,padL_get,if_pos (by omega),gDd,gDd,List.getElem?_drop]; rfl
 ·rw [if_neg hi,if_neg hi]; rfl
theorem layN_get (z:FV):∀ (o:Nat) (vs l:List FV) (i:Nat),(layN z vs o l).getD i z = if i < o then l.getD i z else if i < o + vs.length then vs.getD (i - o) z else l.getD i z
 | 0,[],l,i=>by
  show l.getD i z = _
  simp
 | 0,v :: vs,l,i=>by
  show (v :: layN z vs 0 (lcs [] (λ_ b=>b) l)).getD i z = _
  cases i with
  | zero=>simp
  | succ i =>
   rw [List.getD_cons_succ,layN_get z 0 vs _ i]; have hl:(lcs [] (λ_ b=>b) l).getD i z = l.getD (i + 1) z:=by cases l <;> simp [lcs]
   rw [hl]
   simp
 | o + 1,vs,[],i=>by
  show (z :: layN z vs o []).getD i z = _
  cases i with
  | zero=>simp
  | succ i =>
   rw [List.getD_cons_succ,layN_get z o vs [] i]; simp [Nat.add_right_comm o 1 vs.length]
 | o + 1,vs,a :: l,i=>by
  show (a :: layN z vs o l).getD i z = _
  cases i with
  | zero=>simp
  | succ i =>
   rw [List.getD_cons_succ,layN_get z o vs l i]; simp [Nat.add_right_comm o 1 vs.length]
theorem putN_get (z v:FV):∀ (l:List FV) (o i:Nat),(putN z v l o).getD i z = if i = o then v else l.getD i z
 | [],0,i=>by
  show ([v]:List FV).getD i z = _
  cases i <;> simp
 | [],o + 1,i=>by
  show (z :: putN z v [] o).getD i z = _
  cases i with
  | zero=>simp
  | succ i =>
   rw [List.getD_cons_succ,putN_get z v [] o i]
   simp
 | a :: l,0,i=>by
  show (v :: l).getD i z = _
  cases i <;> simp
 | a :: l,o + 1,i=>by
  show (a :: putN z v l o).getD i z = _
  cases i with
  | zero=>simp
  | succ i =>
   rw [List.getD_cons_succ,putN_get z v l o i]
   simp
theorem splice_get {cs vs:List AV} {o:Nat} (h:o + vs.length<=cs.length) (i:Nat):(splice cs o vs)[i]? = if i < o then cs[i]? else if i < o + vs.length then vs[i - o]? else cs[i]?:=by
 unfold splice
 by_cases h1:i < o
 ·rw [if_pos h1,List.append_assoc,List.getElem?_append_left (by simp; omega),List.getElem?_take,if_pos h1]
 ·rw [if_neg h1]
  by_cases h2:i < o + vs.length
  ·rw [if_pos h2,List.getElem?_append_left (by simp; omega),List.getElem?_append_right (by simp; omega)]
   simp [Nat.min_eq_left (show o<=cs.length by omega)]
  ·rw [if_neg h2,List.getElem?_append_right (by simp; omega),List.getElem?_drop]
   congr 1
   simp [Nat.min_eq_left (show o<=cs.length by omega)]; omega
theorem padL_layN {z:FV} {n o:Nat} {vs l:List FV} (h:o + vs.length<=n):padL z n (layN z vs o l) = splice (padL z n l) o (toAs vs):=by
 refine List.ext_getElem? λi=>?_
 rw [splice_get (by rw [toAs_length,padL_length]; exact h),padL_get,padL_get,layN_get,toAs_length,toAs_eq,List.getElem?_map]
 by_cases h1:i < o
 ·simp [h1]
 ·rw [if_neg h1,if_neg h1]
  by_cases h2:i < o + vs.length
  ·rw [if_pos h2,if_pos h2,if_pos (by omega),gDd,gEe (show i - o < vs.length by omega)]; rfl
  ·rw [if_neg h2,if_neg h2]
theorem padL_putN {z v:FV} {n o:Nat} {l:List FV} (h:o < n):padL z n (putN z v l o) = splice (padL z n l) o [toA v]:=by
 refine List.ext_getElem? λi=>?_
 rw [splice_get (by rw [padL_length]; simp; omega),padL_get,padL_get,putN_get]
 by_cases h1:i < o
 ·simp [h1,Nat.ne_of_lt h1]
 ·rw [if_neg h1]
  by_cases h2:i = o
  ·subst h2; simp [h]
  ·have h3:¬ i < o + [toA v].length:=by rw [List.length_singleton]; omega
   rw [if_neg h2,if_neg h3]
def keyP1 (x:FV):Prop:=(∃ t,x = .b t)\/(∃ k n,x = .i k n)\/∃ l c,x = .s l c
def keyP (x:FV):Prop:=keyP1 x\/∃ cs,x = .agg cs/\∀ c ∈ cs,keyP1 c
inductive EsR:Es->List (Value × AV × Nat)->Prop
 | nil:EsR .nil []
 | cons {k v:FV} {c:Nat} {r:Es} {kv:Value} {l:List (Value × AV × Nat)}:keyP k->keyOf (toA k) = some kv->EsR r l->EsR (.cons k v c r) ((kv,toA v,c) :: l)
def BkR:FB->ABlk->Prop
 | .dead,_=>True
 | .it p since seen last,k=>k = .iter (num p) since seen last
 | .m kt ck es,k=>∃ l,k = .map kt ck l/\EsR es l
 | .c n cs z,k=>k = .cells (padL z n cs)
 | .mf kt es,k=>∃ ck l l0,k = .map kt ck l/\EsR es l0/\∀ kv,keyFits kt kv = true->(mapGet l kv).map (·.1) = (mapGet l0 kv).map (·.1)
def Lg.ns:Lg->List Nat
 | .nil=>[]
 | .cons p r=>num p :: r.ns
def Hp.ht:Hp->HT
 | .mk t _ _=>t
def Hp.n:Hp->Nat
 | .mk _ n _=>n
def Hp.lg:Hp->Lg
 | .mk _ _ lg=>lg
structure HpR (h:Hp) (H:List ABlk):Prop where
 n:h.n = H.length
 lt:h.n<=32768
 at':∀ b k,H[b]? = some k->BkR (hget (pth b) h.ht) k
 out:∀ p,H.length<=num p->hget p h.ht = .dead
structure Fra (pre:List Nat) (h h':Hp) (H H':List ABlk):Prop where
 len:H.length<=H'.length
 log:h'.lg.ns = pre ++ h.lg.ns
 lt:∀ b ∈ pre,b < H'.length
 fr:∀ b,b < H.length->b ∉ pre->H'[b]? = H[b]?
 live:∀ b ∈ pre,b < H.length->H[b]? ≠ some .dead
theorem Fra.refl (h:Hp) (H:List ABlk):Fra [] h h H H:=⟨Nat.le_refl _,rfl,(λb hb=>absurd hb List.not_mem_nil),λ_ _ _=>rfl,λb hb=>absurd hb List.not_mem_nil⟩
theorem Fra.trans {p q:List Nat} {h h1 h2:Hp} {H H1 H2:List ABlk} (a:Fra p h h1 H H1) (b:Fra q h1 h2 H1 H2):Fra (q ++ p) h h2 H H2:=by
 refine ⟨Nat.le_trans a.len b.len,by rw [b.log,a.log,List.append_assoc],λx hx=>?_,λx hx hn=>?_,λx hx hl=>?_⟩
 ·rcases List.mem_append.1 hx with h | h
  ·exact b.lt x h
  ·exact Nat.lt_of_lt_of_le (a.lt x h) b.len
 ·rw [b.fr x (Nat.lt_of_lt_of_le hx a.len) (λh=>hn (List.mem_append.2 (.inl h))),a.fr x hx (λh=>hn (List.mem_append.2 (.inr h)))]
 ·by_cases hp:x ∈ p
  ·exact a.live x hp hl
  ·rcases List.mem_append.1 hx with h | h
   ·rw [<- a.fr x hl hp]; exact b.live x h (Nat.lt_of_lt_of_le hl a.len)
   ·exact absurd h hp
theorem HpR.in' {h:Hp} {H:List ABlk} (hr:HpR h H) {p:Pth} (hp:hget p h.ht ≠ .dead):num p < H.length:=by
 rcases Nat.lt_or_ge (num p) H.length with hl | hl
 ·exact hl
 ·exact absurd (hr.out p hl) hp
theorem HpR.cells {h:Hp} {H:List ABlk} (hr:HpR h H) {p:Pth} {n:Nat} {cs:List FV} {z:FV} (hp:hget p h.ht = .c n cs z):H[num p]? = some (.cells (padL z n cs)):=by
 have hb:=hr.in' (p:=p) (by rw [hp]; exact λe=>by cases e); have:=hr.at' (num p) _ (gEe hb); rw [pth_num,hp] at this; rw [gEe hb,this]
theorem HpR.map {h:Hp} {H:List ABlk} (hr:HpR h H) {p:Pth} {kt:KT} {ck:Nat} {es:Es} (hp:hget p h.ht = .m kt ck es):∃ l,H[num p]? = some (.map kt ck l)/\EsR es l:=by
 have hb:=hr.in' (p:=p) (by rw [hp]; exact λe=>by cases e); have:=hr.at' (num p) _ (gEe hb); rw [pth_num,hp] at this; obtain ⟨l,h1,h2⟩:=this; exact ⟨l,by rw [gEe hb,h1],h2⟩
theorem HpR.it {h:Hp} {H:List ABlk} (hr:HpR h H) {p q:Pth} {since last:Nat} {seen:List Nat} (hp:hget p h.ht = .it q since seen last):H[num p]? = some (.iter (num q) since seen last):=by
 have hb:=hr.in' (p:=p) (by rw [hp]; exact λe=>by cases e); have:=hr.at' (num p) _ (gEe hb); rw [pth_num,hp] at this; rw [gEe hb,this]
theorem HpR.mapf {h:Hp} {H:List ABlk} (hr:HpR h H) {p:Pth} {kt:KT} {es:Es} (hp:hget p h.ht = .mf kt es):∃ ck l l0,H[num p]? = some (.map kt ck l)/\EsR es l0/\∀ kv,keyFits kt kv = true->(mapGet l kv).map (·.1) = (mapGet l0 kv).map (·.1):=by
 have hb:=hr.in' (p:=p) (by rw [hp]; exact λe=>by cases e); have:=hr.at' (num p) _ (gEe hb); rw [pth_num,hp] at this; obtain ⟨ck,l,l0,h1,h2,h3⟩:=this; exact ⟨ck,l,l0,by rw [gEe hb,h1],h2,h3⟩
theorem HpR.set {h:Hp} {H:List ABlk} (hr:HpR h H) {p:Pth} {x:FB} {k:ABlk} (hx:BkR x k) (hl:num p < H.length):HpR (setB h p x) (H.set (num p) k):=by
 obtain ⟨t,n,lg⟩:=h; refine ⟨by rw [List.length_set]; exact hr.n,hr.lt,λb k' hb=>?_,λq hq=>?_⟩
 ·show BkR (hget (pth b) (hset x p t)) k'
  by_cases e:b = num p
  ·subst e
   rw [List.getElem?_set_self hl] at hb
   cases hb
   rw [pth_num,hget_set]; exact hx
  ·rw [List.getElem?_set_ne (Ne.symm e)] at hb
   have hl:=(List.getElem?_eq_some_iff.1 hb).1; rw [hget_ne (λh=>e (by rw [<- h,num_pth (Nat.lt_of_lt_of_le hl (by rw [<- hr.n]; exact hr.lt))]))]; exact hr.at' b k' hb
 ·show hget q (hset x p t) = _
  rw [List.length_set] at hq; rw [hget_ne (λh=>by rw [h] at hq; omega)]; exact hr.out q hq
theorem Fra.set (h:Hp) (H:List ABlk) (p:Pth) (x:FB) (k:ABlk) {k0:ABlk} (hb:H[num p]? = some k0) (hd:k0 ≠ .dead):Fra [num p] h (setB h p x) H (H.set (num p) k):=by
 obtain ⟨t,n,lg⟩:=h; have hl:=(List.getElem?_eq_some_iff.1 hb).1; refine ⟨by simp,(by rfl),λb hb'=>?_,λb _ hb'=>List.getElem?_set_ne λe=>hb' (by simp [e]),λb hb' _=>?_⟩
 ·rw [List.mem_singleton.1 hb',List.length_set]; exact hl
 ·rw [List.mem_singleton.1 hb',hb]; exact λe=>hd (Option.some.inj e)
theorem newB_ok {h:Hp} {H:List ABlk} (hr:HpR h H) {x:FB} {k:Pth->Hp->FR} {v:FV} {h':Hp} (e:newB h x k = .ok v h') {blk:ABlk} (hx:BkR x blk) :
 ∃ p h1,num p = H.length/\HpR h1 (H ++ [blk])/\Fra [] h h1 H (H ++ [blk])/\k p h1 = .ok v h':=by
 obtain ⟨t,n,lg⟩:=h; have hn:n = H.length:=hr.n
 unfold newB onHp at e
 simp only at e
 cases hlt:Nat.blt n 32768 with
 | false=>rw [hlt] at e; cases e
 | true =>
  rw [hlt] at e
  have hl : n < 32768 := by have : n <= 32767 := by simpa [Nat.blt] using hlt
                            omega
  refine ⟨pth n,.mk (hset x (pth n) t) (n + 1) lg,by rw [num_pth hl,hn],⟨?_,?_,λb k' hb=>?_,λq hq=>?_⟩,⟨by simp,rfl,(λb hb=>absurd hb List.not_mem_nil),λb hb _=>List.getElem?_append_left hb,λb hb=>absurd hb List.not_mem_nil⟩,e⟩
  ·show n + 1 = _
   rw [List.length_append,hn]; rfl
  ·show n + 1<=_
   omega
  ·show BkR (hget (pth b) (hset x (pth n) t)) k'
   have hb':=(List.getElem?_eq_some_iff.1 hb).1; rw [List.length_append,List.length_singleton] at hb'
   by_cases eb:b = n
   ·subst eb
    rw [hn,List.getElem?_append_right (Nat.le_refl _),Nat.sub_self] at hb
    cases hb
    rw [hget_set]; exact hx
   ·rw [List.getElem?_append_left (by omega)] at hb
    rw [hget_ne λhe=>eb (by rw [<- num_pth (show b < 32768 by omega),he,num_pth hl])]; exact hr.at' b k' hb
  ·show hget q (hset x (pth n) t) = _
   rw [List.length_append,List.length_singleton] at hq; rw [hget_ne λhe=>by rw [he,num_pth hl] at hq; omega]; exact hr.out q (by omega)
end
noncomputable section
theorem fN_eq {β:Type} (m:Nat) (k:Nat->β):fN m k = k m:=by cases m <;> rfl
theorem mkI_eq (k:IntKind) (n:Int) (h:Hp):mkI k n h = .ok (.i k n) h:=by cases n <;> simp only [mkI,fN_eq]
theorem bif_t {β:Type} (a b:β):bif' true a b = a:=rfl
theorem bif_f {β:Type} (a b:β):bif' false a b = b:=rfl
theorem bif_ok {t:Bool} {a:FR} {v:FV} {h:Hp} (e:bif' t a .no = .ok v h):t = true/\a = .ok v h:=by cases t with | true=>exact ⟨rfl,e⟩ | false=>cases e
theorem brec_ok {t:Bool} {a:FR} {v:FV} {h:Hp} (e:Bool.rec (motive:=λ_=>FR) .no a t = .ok v h):t = true/\a = .ok v h:=by cases t with | true=>exact ⟨rfl,e⟩ | false=>cases e
theorem onI_ok {kk:IntKind->Int->FR} {x v:FV} {h:Hp} (e:onI kk x = .ok v h):∃ k n,x = .i k n/\kk k n = .ok v h:=by cases x <;> first | exact ⟨_,_,rfl,e⟩ | cases e
theorem onP_ok {kk:Pth->Nat->FR} {x v:FV} {h:Hp} (e:onP kk x = .ok v h):∃ k n,x = .ptr k n/\kk k n = .ok v h:=by cases x <;> first | exact ⟨_,_,rfl,e⟩ | cases e
theorem onB_ok {kk:Bool->FR} {x v:FV} {h:Hp} (e:onB kk x = .ok v h):∃ t,x = .b t/\kk t = .ok v h:=by cases x <;> first | exact ⟨_,rfl,e⟩ | cases e
theorem onAgg_ok {kk:List FV->FR} {x v:FV} {h:Hp} (e:onAgg kk x = .ok v h):∃ t,x = .agg t/\kk t = .ok v h:=by cases x <;> first | exact ⟨_,rfl,e⟩ | cases e
theorem onTup_ok {kk:List FV->FR} {x v:FV} {h:Hp} (e:onTup kk x = .ok v h):∃ t,x = .tup t/\kk t = .ok v h:=by cases x <;> first | exact ⟨_,rfl,e⟩ | cases e
theorem onS_ok {kk:Nat->Nat->FR} {x v:FV} {h:Hp} (e:onS kk x = .ok v h):∃ l c,x = .s l c/\kk l c = .ok v h:=by cases x <;> first | exact ⟨_,_,rfl,e⟩ | cases e
theorem onH_ok {kk:Pth->Nat->Nat->Nat->Nat->FR} {x v:FV} {h:Hp} (e:onH kk x = .ok v h):∃ p o n c z,x = .hsl p o n c z/\kk p o n c z = .ok v h:=by cases x <;> first | exact ⟨_,_,_,_,_,rfl,e⟩ | cases e
theorem onN_ok {kk:Nat->FR} {n:Int} {v:FV} {h:Hp} (e:onN kk n = .ok v h):∃ m:Nat,n = .ofNat m/\kk m = .ok v h:=by cases n with | ofNat m=>exact ⟨m,rfl,e⟩ | negSucc m=>cases e
theorem onM_ok {e0:FR} {kk:Pth->FR} {x v:FV} {h:Hp} (e:onM e0 kk x = .ok v h):(x = .mnil/\e0 = .ok v h)\/∃ p,x = .mp p/\kk p = .ok v h:=by
 cases x <;> first | exact .inr ⟨_,rfl,e⟩ | exact .inl ⟨rfl,e⟩ | cases e
theorem kN_inj {a b:IntKind} (h:Nat.beq (kN a) (kN b) = true):a = b:=by cases a <;> cases b <;> first | rfl | cases h
theorem wrS_eq (k:IntKind) (n:Int):wrS k n = k.wrap n:=by
 cases k <;> simp [wrS,sgS,IntKind.wrap,IntKind.bits,IntKind.signed]
theorem wrap_in {k:IntKind} {n:Int} {M:Int} (hk:(k = .i8/\M = 128)\/(k = .i16/\M = 32768)\/(k = .i32/\M = 2147483648)\/(k = .i64/\M = 9223372036854775808)) (h0:-M<=n) (h1:n < M):k.wrap n = n:=by
 rw [<- wrS_eq]; rcases hk with ⟨rfl,rfl⟩ | ⟨rfl,rfl⟩ | ⟨rfl,rfl⟩ | ⟨rfl,rfl⟩ <;> simp only [wrS,sgS] <;> split <;> omega
theorem wI_eq {k:IntKind} {M:Nat} (hk:(k = .i8/\M = 128)\/(k = .i16/\M = 32768)\/(k = .i32/\M = 2147483648)\/(k = .i64/\M = 9223372036854775808)) (n:Int):wI k M n = k.wrap n:=by
 have hk':(k = .i8/\(M:Int) = 128)\/(k = .i16/\(M:Int) = 32768)\/(k = .i32/\(M:Int) = 2147483648)\/(k = .i64/\(M:Int) = 9223372036854775808):=by
  rcases hk with ⟨rfl,rfl⟩ | ⟨rfl,rfl⟩ | ⟨rfl,rfl⟩ | ⟨rfl,rfl⟩ <;> simp
 cases n with
 | ofNat m =>
  show Bool.rec (motive:=λ_=>Int) (wrS k (.ofNat m)) (.ofNat m) (Nat.blt m M) = _
  cases hb:Nat.blt m M with
  | false=>exact wrS_eq k _
  | true =>
   have:m < M:=by unfold Nat.blt at hb; exact Nat.le_of_ble_eq_true hb
   show (Int.ofNat m:Int) = _
   exact (wrap_in hk' (by rw [Int.ofNat_eq_natCast]; omega) (by rw [Int.ofNat_eq_natCast]; omega)).symm
 | negSucc m =>
  show Bool.rec (motive:=λ_=>Int) (wrS k (.negSucc m)) (.negSucc m) (Nat.blt m M) = _
  cases hb:Nat.blt m M with
  | false=>exact wrS_eq k _
  | true =>
   have:m < M:=by unfold Nat.blt at hb; exact Nat.le_of_ble_eq_true hb
   show (Int.negSucc m:Int) = _
   exact (wrap_in hk' (by rw [Int.negSucc_eq]; omega) (by rw [Int.negSucc_eq]; omega)).symm
theorem wU_eq {k:IntKind} {M:Nat} (hk:∀ n,wrS k n = n % (M:Int)) (n:Int):wU k M n = k.wrap n:=by
 cases n with
 | ofNat m=>rw [<- wrS_eq,hk]; rfl
 | negSucc m=>exact wrS_eq k _
theorem wr_eq (k:IntKind) (n:Int):wr k n = k.wrap n:=by
 cases k
 ·exact wI_eq (.inl ⟨rfl,rfl⟩) n
 ·exact wI_eq (.inr (.inl ⟨rfl,rfl⟩)) n
 ·exact wI_eq (.inr (.inr (.inl ⟨rfl,rfl⟩))) n
 ·exact wI_eq (.inr (.inr (.inr ⟨rfl,rfl⟩))) n
 ·exact wU_eq (k:=.u8) (M:=256) (λn=>rfl) n
 ·exact wU_eq (k:=.u16) (M:=65536) (λn=>rfl) n
 ·exact wU_eq (k:=.u32) (M:=4294967296) (λn=>rfl) n
 ·exact wU_eq (k:=.u64) (M:=18446744073709551616) (λn=>rfl) n
theorem nn_eq {f:Nat->Nat->Int} {g:Int->Int->Int} (h:∀ m n,f m n = g (.ofNat m) (.ofNat n)) (a b:Int):nn f g a b = g a b:=by
 cases a <;> cases b <;> first | exact h _ _ | rfl
theorem nnB_eq {f:Nat->Nat->Bool} {g:Int->Int->Bool} (h:∀ m n,f m n = g (.ofNat m) (.ofNat n)) (a b:Int):nnB f g a b = g a b:=by
 cases a <;> cases b <;> first | exact h _ _ | rfl
theorem iadd_eq (a b:Int):iadd a b = a + b:=nn_eq (g:=(· + ·)) (λm n=>rfl) a b
theorem isub_eq (a b:Int):isub a b = a - b:=nn_eq (g:=(· - ·)) (λm n=>by
 cases h:Nat.ble n m with
 | false=>rfl
 | true =>
  have:=Nat.le_of_ble_eq_true h
  show Int.ofNat (m - n) = Int.ofNat m - Int.ofNat n
  simp only [Int.ofNat_eq_natCast]; omega) a b
theorem imul_eq (a b:Int):imul a b = a * b:=nn_eq (g:=(· * ·)) (λm n=>rfl) a b
theorem iquo_eq (a b:Int):iquo a b = a.tdiv b:=nn_eq (g:=λa b=>a.tdiv b) (λm n=>rfl) a b
theorem irem_eq (a b:Int):irem a b = a.tmod b:=nn_eq (g:=λa b=>a.tmod b) (λm n=>rfl) a b
theorem ieq_eq (a b:Int):ieq a b = (a == b):=nnB_eq (g:=λa b=>a == b) (λm n=>by
 rw [Bool.eq_iff_iff,Nat.beq_eq,beq_iff_eq]; exact ⟨λh=>by rw [h],λh=>Int.ofNat.inj h⟩) a b
theorem ine_eq (a b:Int):ine a b = (a != b):=by
 show Bool.rec (motive:=λ_=>Bool) true false (ieq a b) = _
 rw [ieq_eq,bne]
 cases a == b <;> rfl
theorem ilt_eq (a b:Int):ilt a b = decide (a < b):=nnB_eq (g:=λa b=>decide (a < b)) (λm n=>by
 rw [Bool.eq_iff_iff,Nat.ble_eq,decide_eq_true_iff]
 show m + 1<=n ↔ (m:Int) < n
 omega) a b
theorem ile_eq (a b:Int):ile a b = decide (a<=b):=nnB_eq (g:=λa b=>decide (a<=b)) (λm n=>by
 rw [Bool.eq_iff_iff,Nat.ble_eq,decide_eq_true_iff]
 show m<=n ↔ (m:Int)<=n
 omega) a b
theorem bitsN_eq (k:IntKind):bitsN k = k.bits:=by cases k <;> rfl
theorem wrap_mod (k:IntKind) (x:Nat):k.wrap ((x % 2 ^ k.bits:Nat):Int) = k.wrap x:=by
 rw [<- wrS_eq,<- wrS_eq]
 cases k <;> simp only [wrS,sgS,IntKind.bits] <;> simp
theorem iand_eq (k:IntKind) (a b:Int):k.wrap (iand k a b) = k.wrap (BitVec.ofInt k.bits a &&& BitVec.ofInt k.bits b).toNat:=by
 cases a with
 | negSucc m=>rfl
 | ofNat m =>
  cases b with
  | negSucc n=>rfl
  | ofNat n =>
   show k.wrap ((m &&& n:Nat):Int) = _
   rw [<- wrap_mod]
   congr 2
   simp [BitVec.toNat_and,BitVec.toNat_ofInt,Nat.and_mod_two_pow]
theorem ior_eq (k:IntKind) (a b:Int):k.wrap (ior k a b) = k.wrap (BitVec.ofInt k.bits a ||| BitVec.ofInt k.bits b).toNat:=by
 cases a with
 | negSucc m=>rfl
 | ofNat m =>
  cases b with
  | negSucc n=>rfl
  | ofNat n =>
   show k.wrap ((m ||| n:Nat):Int) = _
   rw [<- wrap_mod]
   congr 2
   simp [BitVec.toNat_or,BitVec.toNat_ofInt,Nat.or_mod_two_pow]
theorem ixor_eq (k:IntKind) (a b:Int):k.wrap (ixor k a b) = k.wrap (BitVec.ofInt k.bits a ^^^ BitVec.ofInt k.bits b).toNat:=by
 cases a with
 | negSucc m=>rfl
 | ofNat m =>
  cases b with
  | negSucc n=>rfl
  | ofNat n =>
   show k.wrap ((m ^^^ n:Nat):Int) = _
   rw [<- wrap_mod]
   congr 2
   simp [BitVec.toNat_xor,BitVec.toNat_ofInt,Nat.xor_mod_two_pow]
theorem ishl_eq (k:IntKind) (a:Int) (b:Nat):ishl k a b = a * 2 ^ (min b k.bits):=by
 cases a with
 | ofNat m =>
  show Int.ofNat (m * 2 ^ (min b (bitsN k))) = _
  rw [bitsN_eq]
  simp
 | negSucc m =>
  show Int.negSucc m * ((2 ^ (min b k.bits):Nat):Int) = _
  simp
theorem ishr_eq (k:IntKind) (a:Int) (b:Nat):ishr k a b = a / 2 ^ (min b k.bits):=by
 cases a with
 | ofNat m =>
  show Int.ofNat (m / 2 ^ (min b (bitsN k))) = _
  rw [bitsN_eq]
  simp
 | negSucc m =>
  show Int.negSucc m / ((2 ^ (min b k.bits):Nat):Int) = _
  simp
theorem bys_length:∀ (l c:Nat),(bys l c).length = l
 | 0,_=>rfl
 | l + 1,c=>by simp [bys,bys_length l]
theorem bys_get:∀ (l c i:Nat),i < l->(bys l c)[i]? = some (UInt8.ofNat (c / 256 ^ i % 256))
 | 0,_,_,h=>by omega
 | l + 1,c,0,_=>by simp [bys]
 | l + 1,c,i + 1,h=>by
  simp only [bys,List.getElem?_cons_succ]; rw [bys_get l _ i (by omega),Nat.div_div_eq_div_mul,Nat.pow_succ,Nat.mul_comm]
theorem bys_ext {l c:Nat} {L:List UInt8} (hl:L.length = l) (h:∀ i,i < l->L[i]? = some (UInt8.ofNat (c / 256 ^ i % 256))):bys l c = L:=by
 refine List.ext_getElem? λi=>?_
 rcases Nat.lt_or_ge i l with hi | hi
 ·rw [bys_get l c i hi,h i hi]
 ·rw [List.getElem?_eq_none (by rw [bys_length]; exact hi),List.getElem?_eq_none (by rw [hl]; exact hi)]
theorem p8_eq (l:Nat):p8 l = 256 ^ l:=by
 show 2 ^ (8 * l) = 256 ^ l
 rw [Nat.pow_mul]
theorem code8_div:∀ (L:List UInt8) (i:Nat),i < L.length->L[i]? = some (UInt8.ofNat (code8 L / 256 ^ i % 256))
 | [],i,h=>by simp at h
 | b :: L,0,_=>by
  simp only [code8,List.getElem?_cons_zero,Nat.pow_zero,Nat.div_one]; rw [Nat.add_mul_mod_self_left,Nat.mod_eq_of_lt b.toNat_lt]
  simp
 | b :: L,i + 1,h=>by
  simp only [code8,List.getElem?_cons_succ]; rw [Nat.pow_succ,Nat.mul_comm (256 ^ i) 256,<- Nat.div_div_eq_div_mul,Nat.add_mul_div_left _ _ (by decide),Nat.div_eq_of_lt b.toNat_lt,Nat.zero_add]; exact code8_div L i (by simpa using h)
theorem bys_code8 (L:List UInt8):bys L.length (code8 L) = L:=bys_ext rfl λi hi=>code8_div L i hi
theorem toA_fv (a:AV):toA (fv a) = a:=by
 unfold fv
 split <;> first | rfl | skip
 ·rename_i b
  simp only [toA,bys_code8]
theorem toAs_fvs:∀ (l:List AV),toAs (fvs l) = l
 | []=>rfl
 | a :: l=>by
  show toA (fv a) :: toAs (fvs l) = _
  rw [toA_fv,toAs_fvs l]
theorem toA_fvA (a:AV):toA (fvA a) = a:=by
 unfold fvA
 split
 ·simp only [toA,toAs_fvs]
 ·exact toA_fv a
theorem digit_mod (c l i:Nat) (hi:i < l):c % 256 ^ l / 256 ^ i % 256 = c / 256 ^ i % 256:=by
 obtain ⟨j,rfl⟩:∃ j,l = i + 1 + j:=⟨l - i - 1,by omega⟩; rw [show 256 ^ (i + 1 + j) = 256 ^ i * (256 * 256 ^ j) by rw [Nat.pow_add,Nat.pow_succ,Nat.mul_assoc],Nat.mod_mul_right_div_self,Nat.mod_mul_right_mod]
theorem bys_append (l c l' c':Nat):bys (l + l') (c % p8 l + p8 l * c') = bys l c ++ bys l' c':=by
 rw [p8_eq]; refine bys_ext (by simp [bys_length]) λi hi=>?_
 have hp:0 < 256 ^ l:=Nat.pow_pos (by decide); have hc:c % 256 ^ l < 256 ^ l:=Nat.mod_lt _ hp; rcases Nat.lt_or_ge i l with h | h
 ·rw [List.getElem?_append_left (by rw [bys_length]; exact h),bys_get l c i h]
  congr 2
  rw [<- digit_mod (c % 256 ^ l + 256 ^ l * c') l i h,Nat.add_mul_mod_self_left,Nat.mod_mod,digit_mod c l i h]
 ·rw [List.getElem?_append_right (by rw [bys_length]; exact h),bys_length,bys_get l' c' (i - l) (by omega)]
  congr 2
  rw [show i = l + (i - l) by omega,Nat.pow_add,<- Nat.div_div_eq_div_mul,Nat.add_mul_div_left _ _ hp,Nat.div_eq_of_lt hc,Nat.zero_add,show l + (i - l) - l = i - l by omega]
theorem bys_slice (l c a b:Nat) (h1:a<=b) (h2:b<=l):bys (b - a) (c / p8 a % p8 (b - a)) = ((bys l c).drop a).take (b - a):=by
 rw [p8_eq,p8_eq]; refine bys_ext (by simp [bys_length]; omega) λi hi=>?_
 rw [List.getElem?_take,if_pos hi,List.getElem?_drop,bys_get l c (a + i) (by omega)]
 congr 2
 rw [digit_mod _ _ _ hi,Nat.div_div_eq_div_mul,<- Nat.pow_add]
theorem bys_inj:∀ (l c c':Nat),bys l c = bys l c' ↔ c % 256 ^ l = c' % 256 ^ l
 | 0,c,c'=>by simp [bys,Nat.mod_one]
 | l + 1,c,c'=>by
  simp only [bys,List.cons.injEq]; rw [bys_inj l]; have h8:∀ x y:Nat,UInt8.ofNat (x % 256) = UInt8.ofNat (y % 256) ↔ x % 256 = y % 256:=λx y=>by
   constructor
   ·intro h
    have:=congrArg UInt8.toNat h
    simpa using this
   ·intro h; rw [h]
  rw [h8,Nat.pow_succ,Nat.mul_comm,Nat.mod_mul,Nat.mod_mul]; have e1:=Nat.mod_lt c (by decide:0 < 256); have e2:=Nat.mod_lt c' (by decide:0 < 256)
  constructor
  ·rintro ⟨h1,h2⟩; rw [h1,h2]
  ·intro h
   have e3:c % 256 = c' % 256:=by
    have:=congrArg (· % 256) h
    simpa using this
   refine ⟨e3,?_⟩; rw [e3] at h; omega
theorem seq8_eq (l c l' c':Nat):seq8 l c l' c' = decide ((⟨(bys l c).toArray⟩:ByteArray) = ⟨(bys l' c').toArray⟩):=by
 have hb:((⟨(bys l c).toArray⟩:ByteArray) = ⟨(bys l' c').toArray⟩) ↔ bys l c = bys l' c':=by
  constructor
  ·intro h
   have:=congrArg (λb:ByteArray=>b.data.toList) h
   simpa using this
  ·intro h; rw [h]
 rw [Bool.eq_iff_iff,decide_eq_true_iff,hb]
 show Bool.rec (motive:=λ_=>Bool) false (Nat.beq (c % p8 l) (c' % p8 l)) (Nat.beq l l') = true ↔ _
 cases hl:Nat.beq l l' with
 | false =>
  refine Iff.intro (λh=>absurd h (by simp)) λh=>?_
  have:=congrArg List.length h; rw [bys_length,bys_length] at this; subst this; rw [Nat.beq_refl] at hl; cases hl
 | true =>
  have:=Nat.eq_of_beq_eq_true hl; subst this
  show Nat.beq _ _ = true ↔ _
  rw [Nat.beq_eq,bys_inj,p8_eq]
theorem mkS_eq (l c:Nat) (h:Hp):mkS l c h = .ok (.s l c) h:=by simp only [mkS,fN_eq]
theorem size_bys (l c:Nat):(⟨(bys l c).toArray⟩:ByteArray).size = l:=by
 show (bys l c).toArray.size = l
 rw [List.size_toArray,bys_length]
theorem cI_ok {f:IntKind->Int->Int->Hp->FR} {x y v:FV} {h h':Hp} (e:cI f x y h = .ok v h'):∃ k a b,x = .i k a/\y = .i k b/\f k a b h = .ok v h':=by
 obtain ⟨k,a,rfl,e1⟩:=onI_ok e; obtain ⟨k',b,rfl,e2⟩:=onI_ok e1; obtain ⟨hk,e3⟩:=brec_ok e2; obtain rfl:=kN_inj hk; exact ⟨k,a,b,rfl,rfl,e3⟩
theorem cS_ok {f:IntKind->Int->Nat->Int} {x y v:FV} {h h':Hp} (e:cS f x y h = .ok v h'):∃ k a k' n,x = .i k a/\y = .i k' (.ofNat n)/\v = .i k (f k a n)/\h' = h:=by
 obtain ⟨k,a,rfl,e1⟩:=onI_ok e; obtain ⟨k',b,rfl,e2⟩:=onI_ok e1
 cases b with
 | negSucc m=>cases e2
 | ofNat m =>
  have e3:mkI k (f k a m) h = .ok v h':=e2; rw [mkI_eq] at e3
  cases e3
  exact ⟨k,a,k',m,rfl,rfl,rfl,rfl⟩
theorem cIS_ok {f:IntKind->Int->Int->Hp->FR} {g:Nat->Nat->Nat->Nat->Hp->FR} {x y v:FV} {h h':Hp} (e:cIS f g x y h = .ok v h') :
 (∃ k a b,x = .i k a/\y = .i k b/\f k a b h = .ok v h')\/∃ l c l' c',x = .s l c/\y = .s l' c'/\g l c l' c' h = .ok v h':=by
 cases x <;> first | (cases e; done) | skip
 ·obtain ⟨l',c',rfl,e1⟩:=onS_ok e
  exact .inr ⟨_,_,_,_,rfl,rfl,e1⟩
 ·obtain ⟨k',b,rfl,e1⟩:=onI_ok e
  obtain ⟨hk,e2⟩:=brec_ok e1; obtain rfl:=kN_inj hk; exact .inl ⟨_,_,_,rfl,rfl,e2⟩
theorem binK_ok {op:BinOp} {x y v:FV} {h h':Hp} (e:binK op x y h = .ok v h'):h' = h/\binA op (toA x) (toA y) = some (toA v):=by
 unfold binK at e
 cases op <;> simp only at e
 case add =>
  rcases cIS_ok e with ⟨k,a,b,rfl,rfl,e1⟩ | ⟨l,c,l',c',rfl,rfl,e1⟩
  ·rw [mkI_eq] at e1; cases e1
   simp [toA,binA,wr_eq,iadd_eq]
  ·obtain ⟨hb,e2⟩:=brec_ok e1
   rw [mkS_eq] at e2; cases e2; have hb':l + l' < 9223372036854775807:=by unfold Nat.blt at hb; exact Nat.le_of_ble_eq_true hb
   have hne:¬ ((((⟨(bys l c).toArray⟩:ByteArray).size + (⟨(bys l' c').toArray⟩:ByteArray).size:Nat):Int) > IntKind.i64.max):=by
    rw [size_bys,size_bys]; simp only [IntKind.max,IntKind.signed,IntKind.bits]
    simp
    omega
   simp only [toA,binA,if_neg hne,Option.some.injEq,AV.d.injEq,Dat.v.injEq,Value.string.injEq,true_and]; rw [show Nat.add l l' = l + l' from rfl,show Nat.add (Nat.mod c (p8 l)) (Nat.mul (p8 l) c') = c % p8 l + p8 l * c' from rfl,bys_append]
   apply ByteArray.ext
   rw [ByteArray.data_append]
   simp
 case sub=>obtain ⟨k,a,b,rfl,rfl,e1⟩:=cI_ok e; rw [mkI_eq] at e1; cases e1; simp [toA,binA,wr_eq,isub_eq]
 case mul=>obtain ⟨k,a,b,rfl,rfl,e1⟩:=cI_ok e; rw [mkI_eq] at e1; cases e1; simp [toA,binA,wr_eq,imul_eq]
 case quo =>
  obtain ⟨k,a,b,rfl,rfl,e1⟩:=cI_ok e; rw [ieq_eq] at e1
  by_cases hb:b = 0
  ·subst hb; cases e1
  ·rw [show (b == 0) = false by simpa using hb] at e1
   have e1:mkI _ _ _ = _:=e1; rw [mkI_eq] at e1; cases e1; simp [toA,binA,wr_eq,iquo_eq,hb]
 case rem =>
  obtain ⟨k,a,b,rfl,rfl,e1⟩:=cI_ok e; rw [ieq_eq] at e1
  by_cases hb:b = 0
  ·subst hb; cases e1
  ·rw [show (b == 0) = false by simpa using hb] at e1
   have e1:mkI _ _ _ = _:=e1; rw [mkI_eq] at e1; cases e1; simp [toA,binA,irem_eq,hb]
 case and=>obtain ⟨k,a,b,rfl,rfl,e1⟩:=cI_ok e; rw [mkI_eq] at e1; cases e1; simp [toA,binA,wr_eq,iand_eq]
 case or=>obtain ⟨k,a,b,rfl,rfl,e1⟩:=cI_ok e; rw [mkI_eq] at e1; cases e1; simp [toA,binA,wr_eq,ior_eq]
 case xor=>obtain ⟨k,a,b,rfl,rfl,e1⟩:=cI_ok e; rw [mkI_eq] at e1; cases e1; simp [toA,binA,wr_eq,ixor_eq]
 case shl=>obtain ⟨k,a,k',n,rfl,rfl,rfl,rfl⟩:=cS_ok e; simp [toA,binA,wr_eq,ishl_eq]
 case shr=>obtain ⟨k,a,k',n,rfl,rfl,rfl,rfl⟩:=cS_ok e; simp [toA,binA,ishr_eq]
 case andNot=>obtain ⟨k,a,b,rfl,rfl,e1⟩:=cI_ok e; rw [mkI_eq] at e1; cases e1; simp [toA,binA,wr_eq]
 case eql =>
  rcases cIS_ok e with ⟨k,a,b,rfl,rfl,e1⟩ | ⟨l,c,l',c',rfl,rfl,e1⟩
  ·cases e1; simp [toA,binA,ieq_eq]
  ·cases e1; simp [toA,binA,seq8_eq]
 case neq =>
  rcases cIS_ok e with ⟨k,a,b,rfl,rfl,e1⟩ | ⟨l,c,l',c',rfl,rfl,e1⟩
  ·cases e1; simp [toA,binA,ine_eq]
  ·cases e1
   refine ⟨rfl,?_⟩; simp only [toA,binA,seq8_eq,Option.some.injEq,AV.d.injEq,Dat.v.injEq,Value.bool.injEq]
   cases decide ((⟨(bys l c).toArray⟩:ByteArray) = ⟨(bys l' c').toArray⟩) <;> rfl
 case lss=>obtain ⟨k,a,b,rfl,rfl,e1⟩:=cI_ok e; cases e1; simp [toA,binA,ilt_eq]
 case leq=>obtain ⟨k,a,b,rfl,rfl,e1⟩:=cI_ok e; cases e1; simp [toA,binA,ile_eq]
 case gtr=>obtain ⟨k,a,b,rfl,rfl,e1⟩:=cI_ok e; cases e1; simp [toA,binA,ilt_eq]
 case geq=>obtain ⟨k,a,b,rfl,rfl,e1⟩:=cI_ok e; cases e1; simp [toA,binA,ile_eq]
end
noncomputable section
def Res (h:Hp) (H:List ABlk) (v:FV) (h':Hp) (rd:List Nat) (Φ:List ABlk->AV->List ABlk->Prop):Prop:=
 ∃ pre H',HpR h' H'/\Fra pre h h' H H'/\∀ u,(∀ b ∈ u,b ∉ rd/\b ∉ pre/\(b < H.length\/H'.length<=b))->Φ (kill u H) (toA v) (kill u H')
theorem Res.pure {h:Hp} {H:List ABlk} {v:FV} {rd:List Nat} {Φ:List ABlk->AV->List ABlk->Prop} (hr:HpR h H) (hΦ:∀ G,Φ G (toA v) G):Res h H v h rd Φ:=
 ⟨[],H,hr,.refl h H,λu _=>hΦ _⟩
theorem Res.read {h:Hp} {H:List ABlk} {v:FV} {b:Nat} {k:ABlk} {rd:List Nat} {Φ:List ABlk->AV->List ABlk->Prop} (hr:HpR h H) (hb:H[b]? = some k) (hm:b ∈ rd) (hΦ:∀ G,G[b]? = some k->Φ G (toA v) G):Res h H v h rd Φ:=
 ⟨[],H,hr,.refl h H,λu hu=>hΦ _ (killed hb λhbu=>(hu b hbu).1 hm)⟩
theorem Res.new {h:Hp} {H:List ABlk} {v:FV} {h':Hp} {rd:List Nat} {Φ:List ABlk->AV->List ABlk->Prop} (hr:HpR h H) {x:FB} {blk:ABlk} (hx:BkR x blk) {w:Pth->FV} (e:(newB h x λp h=>.ok (w p) h) = .ok v h')
 (hΦ:∀ G p,G.length = H.length->num p = H.length->Φ G (toA (w p)) (G ++ [blk])):Res h H v h' rd Φ:=by
 obtain ⟨p,h1,hp,hr1,hf,e1⟩:=newB_ok hr e hx
 cases e1
 refine ⟨[],_,hr1,hf,λu hu=>?_⟩; rw [kill_app λb hb=>by
  have:=(hu b hb).2.2; rw [List.length_append,List.length_singleton] at this; rw [List.length_singleton]; exact this]
 exact hΦ _ p (kill_length u H) hp
theorem Res.set {h:Hp} {H:List ABlk} {v:FV} {p:Pth} {x:FB} {k0 blk:ABlk} {rd:List Nat} {Φ:List ABlk->AV->List ABlk->Prop} (hr:HpR h H) (hb:H[num p]? = some k0) (hd:k0 ≠ .dead) (hx:BkR x blk)
 (hΦ:∀ G,G[num p]? = some k0->Φ G (toA v) (G.set (num p) blk)):Res h H v (setB h p x) rd Φ:=by
 refine ⟨[num p],_,hr.set hx (List.getElem?_eq_some_iff.1 hb).1,.set h H p x blk hb hd,λu hu=>?_⟩; have hn:num p ∉ u:=λh=>(hu _ h).2.1 (by simp)
 rw [kill_comm hn]; exact hΦ _ (killed hb hn)
theorem cellsOf_ok {h:Hp} {p:Pth} {k:Nat->List FV->FV->FR} {v:FV} {h':Hp} (e:cellsOf h p k = .ok v h'):∃ n cs z,hget p h.ht = .c n cs z/\k n cs z = .ok v h':=by
 obtain ⟨t,n,lg⟩:=h; have e1:onFB k (hget p t) = .ok v h':=e
 show ∃ n cs z,hget p t = _/\_
 cases hh:hget p t <;> rw [hh] at e1 <;> first | exact ⟨_,_,_,rfl,e1⟩ | cases e1
theorem mapOfF_ok {h:Hp} {p:Pth} {k:KT->Nat->Es->FR} {v:FV} {h':Hp} (e:mapOfF h p k = .ok v h'):∃ kt ck es,hget p h.ht = .m kt ck es/\k kt ck es = .ok v h':=by
 obtain ⟨t,n,lg⟩:=h; have e1:onFM k (hget p t) = .ok v h':=e
 show ∃ kt ck es,hget p t = _/\_
 cases hh:hget p t <;> rw [hh] at e1 <;> first | exact ⟨_,_,_,rfl,e1⟩ | cases e1
theorem mapLF_ok {h:Hp} {p:Pth} {k:KT->Es->FR} {v:FV} {h':Hp} (e:mapLF h p k = .ok v h'):(∃ kt ck es,hget p h.ht = .m kt ck es/\k kt es = .ok v h')\/∃ kt es,hget p h.ht = .mf kt es/\k kt es = .ok v h':=by
 obtain ⟨t,n,lg⟩:=h; have e1:onFL k (hget p t) = .ok v h':=e
 show (∃ kt ck es,hget p t = _/\_)\/∃ kt es,hget p t = _/\_
 cases hh:hget p t <;> rw [hh] at e1 <;> first | exact .inl ⟨_,_,_,rfl,e1⟩ | exact .inr ⟨_,_,rfl,e1⟩ | cases e1
theorem viaA_ok {r:Option AV} {h h':Hp} {v:FV} (e:viaA r h = .ok v h'):h' = h/\r = some (toA v):=by
 unfold viaA at e
 split at e
 ·cases e; exact ⟨rfl,by rw [toA_fv]⟩
 ·cases e
theorem blt_iff {a b:Nat}:Nat.blt a b = true ↔ a < b:=by unfold Nat.blt; rw [Nat.ble_eq]; rfl
theorem one_cells {a:AV} (h:one a = true):shown a = true/\cellsAV a = [a]:=by cases a <;> first | (cases h; done) | exact ⟨rfl,rfl⟩
theorem cellB_one {v:FV} (h:cellB v = true):one (toA v) = true:=by cases v <;> first | (cases h; done) | rfl | exact h
theorem cellsF_ok {x:FV} {kk:Nat->List FV->FR} {v:FV} {h':Hp} (e:cellsF x kk = .ok v h'):∃ n cs,kk n cs = .ok v h'/\cs.length = n/\toAs cs = cellsAV (toA x)/\shown (toA x) = true:=by
 cases x <;> first | (cases e; done) | exact ⟨1,_,e,rfl,rfl,rfl⟩ | skip
 ·rename_i a
  obtain ⟨h1,e1⟩:=bif_ok e; obtain ⟨h2,h3⟩:=one_cells h1; exact ⟨1,_,e1,rfl,by rw [toAs,toAs]; exact h3.symm,h2⟩
 ·rename_i cs
  have e1:fN (lenL cs 0) (λn=>kk n cs) = .ok v h':=e; rw [fN_eq,lenL_eq,Nat.zero_add] at e1; exact ⟨_,cs,e1,rfl,rfl,rfl⟩
section
variable {S:List AV} {h h':Hp} {H:List ABlk} {v x y w:FV} {x' y' w':Opd} {rd:List Nat}
theorem o_mv (hx:get S x' = toA x) (hr:HpR h H):Res h H x h rd λG a G'=>evK (.mv x') S G = some (a,G'):=.pure hr λG=>by simp only [evK,hx]
theorem o_pick (hx:get S x' = toA x) (hy:get S y' = toA y) (hw:get S w' = toA w) (hr:HpR h H) (e:k_pick x y w h = .ok v h'):Res h H v h' rd λG a G'=>evK (.pick x' y' w') S G = some (a,G'):=by
 obtain ⟨t,rfl,e1⟩:=onB_ok e
 cases e1
 refine .pure hr λG=>?_
 simp only [evK,hx,hy,hw,toA]
 cases t <;> rfl
theorem o_al {z:List AV} (hr:HpR h H) (e:k_al z.length (fvs z) h = .ok v h'):Res h H v h' rd λG a G'=>evK (.al z) S G = some (a,G'):=by
 have hl:(fvs z).length = z.length:=by rw [<- toAs_length,toAs_fvs]
 refine .new hr (blk:=.cells z) (x:=.c z.length (fvs z) .any) ?_ e λG p hG hp=>?_
 ·show ABlk.cells z = .cells (padL .any z.length (fvs z))
  rw [padL_full hl,toAs_fvs]
 ·simp only [evK,toA,hG,hp]
theorem o_bx (hx:get S x' = toA x) (hr:HpR h H) (e:k_bx x h = .ok v h'):Res h H v h' rd λG a G'=>evK (.bx x') S G = some (a,G'):=by
 obtain ⟨n,cs,e1,h1,h2,h3⟩:=cellsF_ok e; refine .new hr (blk:=.cells (cellsAV (toA x))) (x:=.c n cs .any) ?_ e1 λG p hG hp=>?_
 ·show ABlk.cells _ = .cells (padL .any n cs)
  rw [padL_full h1,h2]
 ·simp only [evK,hx,h3,if_true,toA,hG,hp]
theorem outA_one (c:AV):outA false [c] = some c:=rfl
theorem o_ld (hx:get S x' = toA x) (hr:HpR h H) (hrd:(nmOf x).ns ⊆ rd) (e:k_ld x h = .ok v h'):Res h H v h' rd λG a G'=>evK (.ld x' 1 false) S G = some (a,G'):=by
 cases x <;> first | (cases e; done) | skip
 ·rename_i a
  obtain ⟨rfl,e1⟩:=viaA_ok e; refine .pure hr λG=>?_
  rw [Option.bind_eq_some_iff] at e1; obtain ⟨cs,e2,e3⟩:=e1; have e4:loadA G a 1 = some cs:=by
   unfold loadA at e2 ⊢
   split at e2
   ·simp at e2
   ·exact e2
   ·cases e2
  simp only [evK,hx,toA,e4,e3]
 ·rename_i p o
  obtain ⟨n,cs,z,hp,e1⟩:=cellsOf_ok e; obtain ⟨hlt,e2⟩:=bif_ok e1
  cases e2
  rw [blt_iff] at hlt; refine .read hr (hr.cells hp) (hrd (by simp [nmOf,Lg.ns])) λG hG=>?_
  simp only [evK,hx,toA,loadA,hG,padL_length]; rw [if_pos (show o + 1<=n by omega)]; have:((padL z n cs).drop o).take 1 = [toA (lnth z cs o)]:=by
   refine List.ext_getElem? λi=>?_
   rw [List.getElem?_take,List.getElem?_drop,padL_get]
   cases i with
   | zero=>simp [hlt,lnth_eq]
   | succ i=>simp
  simp only [this,outA_one]
theorem o_ldn {m:Nat} (hx:get S x' = toA x) (hr:HpR h H) (hrd:(nmOf x).ns ⊆ rd) (e:k_ldn m x h = .ok v h'):Res h H v h' rd λG a G'=>evK (.ld x' m true) S G = some (a,G'):=by
 cases x <;> first | (cases e; done) | skip
 ·rename_i a
  have e1:(match loadA [] a m with | some l=>FR.ok (.agg (fvs l)) h | none=>.no) = .ok v h':=e
  split at e1
  ·rename_i cs e2
   cases e1
   refine .pure hr λG=>?_
   have e4:loadA G a m = some cs:=by
    unfold loadA at e2 ⊢
    split at e2
    ·simp at e2
    ·exact e2
    ·cases e2
   simp only [evK,hx,toA,e4,outA,if_true,toAs_fvs]
  ·cases e1
 ·rename_i p o
  obtain ⟨n,cs,z,hp,e1⟩:=cellsOf_ok e; obtain ⟨hlt,e2⟩:=bif_ok e1
  cases e2
  have hlt:=Nat.le_of_ble_eq_true hlt; refine .read hr (hr.cells hp) (hrd (by simp [nmOf,Lg.ns])) λG hG=>?_
  simp only [evK,hx,toA,loadA,hG,padL_length]; rw [if_pos (show o + m<=n from hlt)]; simp only [outA,if_true,toAs_takN z m o n cs hlt]
theorem cellsB_ok:∀ {n:Nat} {l:List FV},cellsB n l = true->l.length = n/\(toAs l).all one = true
 | 0,[],_=>⟨rfl,rfl⟩
 | 0,a :: l,h=>by cases h
 | n + 1,[],h=>by cases h
 | n + 1,a :: l,h=>by
  have h1:bif' (cellB a) (cellsB n l) false = true:=h
  cases hc:cellB a with
  | false=>rw [hc] at h1; cases h1
  | true =>
   rw [hc] at h1; obtain ⟨h2,h3⟩:=cellsB_ok (n:=n) (l:=l) h1; exact ⟨by simp [h2],by simp [toAs,cellB_one hc,h3]⟩
theorem o_stn {m:Nat} (hx:get S x' = toA x) (hy:get S y' = toA y) (hr:HpR h H) (e:k_stn m x y h = .ok v h'):Res h H v h' rd λG a G'=>evK (.st x' y' m) S G = some (a,G'):=by
 obtain ⟨p,o,rfl,e1⟩:=onP_ok e; obtain ⟨vs,rfl,e2⟩:=onAgg_ok e1; obtain ⟨n,cs,z,hp,e3⟩:=cellsOf_ok e2; obtain ⟨hlt,e4⟩:=bif_ok e3; obtain ⟨hc,e5⟩:=bif_ok e4
 cases e5
 have hlt:=Nat.le_of_ble_eq_true hlt; obtain ⟨h1,h2⟩:=cellsB_ok hc; have hle:o + vs.length<=n:=by rw [h1]; exact hlt
 refine .set hr (hr.cells hp) (λe=>by cases e) (blk:=.cells (splice (padL z n cs) o (toAs vs))) ?_ λG hG=>?_
 ·show ABlk.cells _ = .cells (padL z n (layN z vs o cs))
  rw [padL_layN hle]
 ·simp only [evK,hx,hy,toA,shown,cellsAV,toAs_length,h1,beq_self_eq_true,Bool.and_self,if_true,storeA,hG,padL_length,h2,and_true]
  rw [if_pos (show o + m<=n from hlt)]
  rfl
theorem o_st (hx:get S x' = toA x) (hy:get S y' = toA y) (hr:HpR h H) (e:k_st x y h = .ok v h'):Res h H v h' rd λG a G'=>evK (.st x' y' 1) S G = some (a,G'):=by
 cases hc:cellB y with
 | false =>
  have e1:bif' (cellB y) _ (k_stn 1 x y h) = .ok v h':=e; rw [hc] at e1; exact o_stn hx hy hr e1
 | true =>
  have e1:bif' (cellB y) _ (k_stn 1 x y h) = .ok v h':=e; rw [hc] at e1; obtain ⟨p,o,rfl,e2⟩:=onP_ok (show onP _ x = .ok v h' from e1); obtain ⟨n,cs,z,hp,e3⟩:=cellsOf_ok e2; obtain ⟨hlt,e4⟩:=bif_ok e3
  cases e4
  rw [blt_iff] at hlt; have h1:=cellB_one hc; obtain ⟨h2,h3⟩:=one_cells h1; refine .set hr (hr.cells hp) (λe=>by cases e) (blk:=.cells (splice (padL z n cs) o [toA y])) ?_ λG hG=>?_
  ·show ABlk.cells _ = .cells (padL z n (putN z y cs o))
   rw [padL_putN hlt]
  ·simp only [evK,hx,hy,toA,h2,h3,List.length_singleton,beq_self_eq_true,Bool.and_self,if_true,storeA,hG,padL_length,List.all_cons,List.all_nil,h1,and_true]
   rw [if_pos (show o + 1<=n by omega)]
   rfl
theorem o_nc (hx:get S x' = toA x) (hr:HpR h H) (e:k_nc x h = .ok v h'):Res h H v h' rd λG a G'=>evK (.nc x') S G = some (a,G'):=by
 cases x <;> first | (cases e; done) | skip
 ·rename_i a
  have e1:(match a with | .ip cs=>FR.ok (.x (.ip cs)) h | _=>.no) = .ok v h':=e
  split at e1
  ·cases e1
   exact .pure hr λG=>by simp only [evK,hx,toA]
  ·cases e1
 ·cases e
  exact .pure hr λG=>by simp only [evK,hx,toA]
 ·cases e
  exact .pure hr λG=>by simp only [evK,hx,toA]
theorem o_bin {op:BinOp} (hx:get S x' = toA x) (hy:get S y' = toA y) (hr:HpR h H) (e:binK op x y h = .ok v h'):Res h H v h' rd λG a G'=>evK (.bin op x' y') S G = some (a,G'):=by
 obtain ⟨rfl,e1⟩:=binK_ok e; exact .pure hr λG=>by simp only [evK,hx,hy,e1]
theorem o_eqs {neg:Bool} (hx:get S x' = toA x) (hy:get S y' = toA y) (hr:HpR h H) (e:k_eqs neg x y h = .ok v h'):Res h H v h' rd λG a G'=>evK (.eqs neg x' y') S G = some (a,G'):=by
 obtain ⟨a,rfl,e1⟩:=onB_ok e; obtain ⟨b,rfl,e2⟩:=onB_ok e1
 cases e2
 refine .pure hr λG=>?_
 simp only [evK,hx,hy,toA]
 cases neg <;> cases a <;> cases b <;> rfl
theorem o_eqp {neg:Bool} (hx:get S x' = toA x) (hy:get S y' = toA y) (hr:HpR h H) (e:k_eqp neg x y h = .ok v h'):Res h H v h' rd λG a G'=>evK (.eqp neg x' y') S G = some (a,G'):=by
 have key:h' = h/\ptrsA neg (toA x) (toA y) = some (toA v):=by
  cases x <;> first | (cases e; done) | skip
  ·cases y <;> first | (cases e; done) | skip
   ·cases e; exact ⟨rfl,by cases neg <;> rfl⟩
   ·cases e; exact ⟨rfl,rfl⟩
  ·cases y <;> first | (cases e; done) | skip
   cases e; exact ⟨rfl,rfl⟩
 obtain ⟨rfl,e1⟩:=key; exact .pure hr λG=>by simp only [evK,hx,hy,e1]
theorem o_un {op:UnOp} (hx:get S x' = toA x) (hr:HpR h H) (e:unK op x h = .ok v h'):Res h H v h' rd λG a G'=>evK (.un op x') S G = some (a,G'):=by
 have key:h' = h/\unA op (toA x) = some (toA v):=by
  unfold unK at e
  split at e
  ·obtain ⟨t,rfl,e1⟩:=onB_ok e
   cases e1
   exact ⟨rfl,by cases t <;> rfl⟩
  ·obtain ⟨k,n,rfl,e1⟩:=onI_ok e
   rw [mkI_eq] at e1
   cases e1
   exact ⟨rfl,by simp only [toA,unA,wr_eq,isub_eq]⟩
  ·cases e
 obtain ⟨rfl,e1⟩:=key; exact .pure hr λG=>by simp only [evK,hx,e1]
theorem o_cvi {k:IntKind} (hx:get S x' = toA x) (hr:HpR h H) (e:k_cvi k x h = .ok v h'):Res h H v h' rd λG a G'=>evK (.cvi k x') S G = some (a,G'):=by
 obtain ⟨k',n,rfl,e1⟩:=onI_ok e; rw [mkI_eq] at e1
 cases e1
 exact .pure hr λG=>by simp only [evK,hx,toA,wr_eq]
theorem k_fa_ok {off:Nat} (e:k_fa off x h = .ok v h'):h' = h/\faA (toA x) off = some (toA v):=by
 cases x <;> first | (cases e; done) | skip
 ·exact viaA_ok e
 ·rename_i p o
  have e1:fN (o + off) (λo=>FR.ok (.ptr p o) h) = .ok v h':=e; rw [fN_eq] at e1
  cases e1
  exact ⟨rfl,rfl⟩
theorem o_fa {off:Nat} (hx:get S x' = toA x) (hr:HpR h H) (e:k_fa off x h = .ok v h'):Res h H v h' rd λG a G'=>evK (.fa x' off) S G = some (a,G'):=by
 obtain ⟨rfl,e1⟩:=k_fa_ok e; exact .pure hr λG=>by simp only [evK,hx,e1]
theorem o_fld {off:Nat} (hx:get S x' = toA x) (hr:HpR h H) (e:k_fld off x h = .ok v h'):Res h H v h' rd λG a G'=>evK (.fld x' off 1 false) S G = some (a,G'):=by
 obtain ⟨cs,rfl,e1⟩:=onAgg_ok e; obtain ⟨hlt,e2⟩:=bif_ok e1
 cases e2
 rw [blt_iff,lenL_eq,Nat.zero_add] at hlt; refine .pure hr λG=>?_
 simp only [evK,hx,toA,toAs_length]; rw [if_pos (show off + 1<=cs.length by omega)]; have:((toAs cs).drop off).take 1 = [toA (lnth .any cs off)]:=by
  refine List.ext_getElem? λi=>?_
  rw [List.getElem?_take,List.getElem?_drop,toAs_eq,List.getElem?_map]
  cases i with
  | zero=>simp [lnth_eq,gEe hlt,gDd]
  | succ i=>simp
 simp only [this,outA_one]
theorem o_fldn {off n:Nat} (hx:get S x' = toA x) (hr:HpR h H) (e:k_fldn off n x h = .ok v h'):Res h H v h' rd λG a G'=>evK (.fld x' off n true) S G = some (a,G'):=by
 obtain ⟨cs,rfl,e1⟩:=onAgg_ok e; obtain ⟨hlt,e2⟩:=bif_ok e1
 cases e2
 have hlt:=Nat.le_of_ble_eq_true hlt; rw [lenL_eq,Nat.zero_add] at hlt; refine .pure hr λG=>?_
 simp only [evK,hx,toA,toAs_length]; rw [if_pos (show off + n<=cs.length from hlt)]; simp only [outA,if_true,toAs_takN .any n off cs.length cs hlt,padL_full rfl]
theorem o_ia {sz:Nat} (hx:get S x' = toA x) (hy:get S y' = toA y) (hr:HpR h H) (e:k_ia sz x y h = .ok v h'):Res h H v h' rd λG a G'=>evK (.ia x' y' sz) S G = some (a,G'):=by
 obtain ⟨k,j,rfl,e1⟩:=onI_ok e; have key:h' = h/\iaA (toA x) j sz = some (toA v):=by
  cases x <;> first | (cases e1; done) | skip
  ·exact viaA_ok e1
  ·rename_i p o n c z
   obtain ⟨m,rfl,e2⟩:=onN_ok (show onN _ j = .ok v h' from e1); obtain ⟨hlt,e3⟩:=bif_ok e2; obtain ⟨hz,e4⟩:=bif_ok e3; rw [fN_eq] at e4
   cases e4
   rw [blt_iff] at hlt; have hz:=Nat.eq_of_beq_eq_true hz; subst hz; refine ⟨rfl,?_⟩; simp only [toA,iaA,Int.ofNat_eq_natCast,Int.toNat_natCast]; rw [if_pos ⟨by omega,by omega,trivial⟩]
   rfl
 obtain ⟨rfl,e2⟩:=key; exact .pure hr λG=>by simp only [evK,hx,hy,toA,e2]
theorem o_iar {n sz:Nat} (hx:get S x' = toA x) (hy:get S y' = toA y) (hr:HpR h H) (e:k_iar n sz x y h = .ok v h'):Res h H v h' rd λG a G'=>evK (.iar x' y' n sz) S G = some (a,G'):=by
 obtain ⟨k,j,rfl,e1⟩:=onI_ok e; obtain ⟨m,rfl,e2⟩:=onN_ok e1; obtain ⟨hlt,e3⟩:=bif_ok e2; rw [blt_iff] at hlt; obtain ⟨rfl,e4⟩:=k_fa_ok e3; refine .pure hr λG=>?_
 simp only [evK,hx,hy,toA,Int.ofNat_eq_natCast,Int.toNat_natCast]; rw [if_pos ⟨by omega,by omega⟩,show m * sz = Nat.mul m sz from rfl,e4]
theorem o_ix (hx:get S x' = toA x) (hy:get S y' = toA y) (hr:HpR h H) (e:k_ix x y h = .ok v h'):Res h H v h' rd λG a G'=>evK (.ix x' y') S G = some (a,G'):=by
 obtain ⟨l,c,rfl,e1⟩:=onS_ok e; obtain ⟨k,j,rfl,e2⟩:=onI_ok e1; obtain ⟨m,rfl,e3⟩:=onN_ok e2; obtain ⟨hlt,e4⟩:=bif_ok e3; rw [fN_eq] at e4
 cases e4
 rw [blt_iff] at hlt; refine .pure hr λG=>?_
 simp only [evK,hx,hy,toA,size_bys,Int.ofNat_eq_natCast,Int.toNat_natCast]; rw [if_pos ⟨by omega,by omega⟩]; have:(bys l c).getD m 0 = UInt8.ofNat (c / 256 ^ m % 256):=by rw [gDd,bys_get l c m hlt]; rfl
 rw [this,show Nat.mod (Nat.div c (p8 m)) 256 = c / 256 ^ m % 256 by rw [p8_eq]; rfl]
 simp
theorem o_ixv {n:Nat} (hx:get S x' = toA x) (hy:get S y' = toA y) (hr:HpR h H) (e:k_ixv n x y h = .ok v h'):Res h H v h' rd λG a G'=>evK (.ixv x' y' n) S G = some (a,G'):=by
 obtain ⟨k,j,rfl,e1⟩:=onI_ok e; obtain ⟨m,rfl,e2⟩:=onN_ok e1; obtain ⟨hlt,e3⟩:=bif_ok e2; obtain ⟨cs,rfl,e4⟩:=onAgg_ok e3; obtain ⟨hle,e5⟩:=bif_ok e4
 cases e5
 rw [blt_iff] at hlt; have hle:=Nat.le_of_ble_eq_true hle; rw [lenL_eq,Nat.zero_add] at hle; refine .pure hr λG=>?_
 simp only [evK,hx,hy,toA,toAs_length,Int.ofNat_eq_natCast,Int.toNat_natCast]; rw [if_pos ⟨by omega,by omega,hle⟩]; rw [lnth_eq,toAs_eq,gDd,gDd,List.getElem?_map]
 cases cs[m]? <;> rfl
theorem o_ext {i:Nat} (hx:get S x' = toA x) (hr:HpR h H) (e:k_ext i x h = .ok v h'):Res h H v h' rd λG a G'=>evK (.ext x' i) S G = some (a,G'):=by
 obtain ⟨cs,rfl,e1⟩:=onTup_ok e; obtain ⟨hlt,e2⟩:=bif_ok e1
 cases e2
 rw [blt_iff,lenL_eq,Nat.zero_add] at hlt; refine .pure hr λG=>?_
 simp only [evK,hx,toA]; rw [lnth_eq,toAs_eq,List.getElem?_map,gDd,gEe hlt]
 rfl
theorem o_lens (hx:get S x' = toA x) (hr:HpR h H) (e:k_lens x h = .ok v h'):Res h H v h' rd λG a G'=>evK (.len true x') S G = some (a,G'):=by
 obtain ⟨l,c,rfl,e1⟩:=onS_ok e
 cases e1
 refine .pure hr λG=>?_
 simp only [evK,hx,toA,isStr,if_true,lenA,size_bys]
 rfl
theorem o_lenh (hx:get S x' = toA x) (hr:HpR h H) (e:k_lenh x h = .ok v h'):Res h H v h' rd λG a G'=>evK (.len false x') S G = some (a,G'):=by
 cases x <;> first | (cases e; done) | skip
 ·cases e
  exact .pure hr λG=>by simp [evK,hx,toA,isStr,lenA]
 ·rename_i a
  cases hs:isStr a with
  | true=>have e1:bif' (isStr a) FR.no _ = .ok v h':=e; rw [hs] at e1; cases e1
  | false =>
   have e1:bif' (isStr a) FR.no (match lenA a with | some n=>.ok (.i .i64 n) h | none=>.no) = .ok v h':=e; rw [hs] at e1; have e2:(match lenA a with | some n=>FR.ok (.i .i64 n) h | none=>.no) = .ok v h':=e1
   split at e2
   ·rename_i n hn
    cases e2
    exact .pure hr λG=>by simp only [evK,hx,toA,hs,if_true,hn]
   ·cases e2
 ·cases e
  exact .pure hr λG=>by simp [evK,hx,toA,isStr,lenA]
theorem o_mki {t:Nat} (hx:get S x' = toA x) (hr:HpR h H):Res h H (.ifc t x) h rd λG a G'=>evK (.mki t x') S G = some (a,G'):=.pure hr λG=>by simp only [evK,hx,toA]
theorem o_tas {t:Nat} {z:AV} {ok:Bool} (hx:get S x' = toA x) (hr:HpR h H) (e:k_tas t (fvA z) ok x h = .ok v h'):Res h H v h' rd λG a G'=>evK (.tas t z x' ok) S G = some (a,G'):=by
 have q:∀ {v h'},bif' ok (FR.ok (.tup [fvA z,.b false]) h) .no = .ok v h'->h' = h/\ok = true/\toA v = .tup [z,.d (.v (.bool false))]:=λ{v h'} e=>by
  obtain ⟨h1,e1⟩:=bif_ok e
  cases e1
  exact ⟨rfl,h1,by simp [toA,toAs,toA_fvA]⟩
 cases x <;> first | (cases e; done) | skip
 ·obtain ⟨rfl,h1,h2⟩:=q (show bif' ok _ _ = _ from e)
  exact .pure hr λG=>by simp [evK,hx,toA,h1,h2]
 ·rename_i t' y
  have e1:bif' (Nat.beq t' t) (FR.ok (bif' ok (.tup [y,.b true]) y) h) (bif' ok (FR.ok (.tup [fvA z,.b false]) h) .no) = .ok v h':=e
  cases ht:Nat.beq t' t with
  | true =>
   rw [ht] at e1; have e2:FR.ok (bif' ok (.tup [y,.b true]) y) h = .ok v h':=e1
   cases e2
   have ht:=Nat.eq_of_beq_eq_true ht; subst ht; refine .pure hr λG=>?_
   simp only [evK,hx,toA,if_true]
   cases ok <;> simp [bif',toA,toAs]
  | false =>
   rw [ht] at e1; obtain ⟨rfl,h1,h2⟩:=q e1; have hne:t' ≠ t:=λhe=>by subst he; rw [Nat.beq_refl] at ht; cases ht
   exact .pure hr λG=>by simp [evK,hx,toA,h1,h2,hne]
theorem o_eqi {neg:Bool} (hx:get S x' = toA x) (hr:HpR h H) (e:k_eqi neg x h = .ok v h'):Res h H v h' rd λG a G'=>evK (.eqi neg x') S G = some (a,G'):=by
 cases x <;> first | (cases e; done) | skip
 ·cases e
  exact .pure hr λG=>by cases neg <;> simp [evK,hx,toA,nilI,notB]
 ·cases e
  exact .pure hr λG=>by simp [evK,hx,toA,nilI]
theorem o_isn {mp neg:Bool} (hx:get S x' = toA x) (hr:HpR h H) (e:k_isn mp neg x h = .ok v h'):Res h H v h' rd λG a G'=>evK (.isn mp neg x') S G = some (a,G'):=by
 have key:h' = h/\nilA mp neg (toA x) = some (toA v):=by
  cases mp with
  | true =>
   rcases onM_ok (show onM _ _ x = .ok v h' from e) with ⟨rfl,e1⟩ | ⟨p,rfl,e1⟩
   ·cases e1; exact ⟨rfl,by cases neg <;> rfl⟩
   ·cases e1; exact ⟨rfl,rfl⟩
  | false =>
   cases x <;> first | (cases e; done) | skip
   ·cases e; exact ⟨rfl,rfl⟩
   ·exact viaA_ok e
   ·rename_i p o n c z
    cases n with
    | zero=>cases e; exact ⟨rfl,rfl⟩
    | succ n=>cases e; exact ⟨rfl,rfl⟩
 obtain ⟨rfl,e1⟩:=key; exact .pure hr λG=>by simp only [evK,hx,e1]
end
end
noncomputable section
def inS (n:Nat) (x:Opd):Prop:=∀ t ∈ x.sl,t < n
theorem gO_ok {t:Fr} {S:List AV} (hf:FrR t S) {x:Opd} (h:inS S.length x):get S x = toA (gO (fo x) t):=by
 cases x with
 | t n=>exact hf.at' n (h n (by simp [Opd.sl]))
 | c v=>exact (toA_fvA v).symm
theorem gOs_ok {t:Fr} {S:List AV} (hf:FrR t S):∀ {xs:List Opd},(∀ x ∈ xs,inS S.length x)->toAs (gOs (fos xs) t) = xs.map (get S)
 | [],_=>rfl
 | x :: xs,h=>by
  show toA (gO (fo x) t) :: toAs (gOs (fos xs) t) = _
  rw [gOs_ok hf λy hy=>h y (List.mem_cons_of_mem _ hy),<- gO_ok hf (h x List.mem_cons_self)]; rfl
theorem flat_drop {α:Type} (cs:List α) (sz:Nat):∀ (n off:Nat),off + n * sz<=cs.length->((List.range n).map λi=>(cs.drop (off + i * sz)).take sz).flatten = (cs.drop off).take (n * sz)
 | 0,off,_=>by simp
 | n + 1,off,h=>by
  rw [List.range_succ,List.map_append,List.flatten_append,flat_drop cs sz n off (by rw [Nat.succ_mul] at h; omega)]; simp only [List.map_cons,List.map_nil,List.flatten_cons,List.flatten_nil,List.append_nil]; rw [Nat.succ_mul,List.take_add,List.drop_drop]
theorem toAs_append (a b:List FV):toAs (a ++ b) = toAs a ++ toAs b:=by simp [toAs_eq]
theorem toAs_fvss:∀ (l:List (List AV)),toAs (fvss l) = l.flatten
 | []=>rfl
 | a :: l=>by
  show toAs (appL (fvs a) (fvss l)) = _
  rw [appL_eq,toAs_append,toAs_fvs,toAs_fvss l]; rfl
theorem bysF_eq:∀ (l c:Nat),toAs (bysF l c) = (bys l c).map λb=>AV.d (.v (.int .u8 b.toNat))
 | 0,_=>rfl
 | l + 1,c=>by
  show toA (.i .u8 (.ofNat (c % 256))) :: toAs (bysF l (c / 256)) = _
  rw [bysF_eq l]; simp [bys,toA]
theorem flatF_len {α:Type} {sz:Nat}:∀ {L:List (List α)},(∀ e ∈ L,e.length = sz)->L.flatten.length = L.length * sz
 | [],_=>by simp
 | a :: L,h=>by
  rw [List.flatten_cons,List.length_append,flatF_len λe he=>h e (List.mem_cons_of_mem _ he),h a List.mem_cons_self,List.length_cons,Nat.succ_mul]; omega
theorem flat_one {α:Type}:∀ (L:List α),(L.map λx=>[x]).flatten = L
 | []=>rfl
 | a :: L=>by rw [List.map_cons,List.flatten_cons,flat_one L]; rfl
section
variable {S:List AV} {h h':Hp} {H:List ABlk} {v x y w:FV} {x' y' w':Opd} {rd:List Nat}
theorem elemsF_ok {sz:Nat} {kk:Nat->List FV->FR} (hr:HpR h H) (e:elemsF sz x h kk = .ok v h') :
 ∃ m es,kk m es = .ok v h'/\∀ G:List ABlk,(∀ b ∈ (nmOf x).ns,G[b]? = H[b]?)->∃ L,elemsA G sz (toA x) = some L/\L.length = m/\L.flatten = toAs es/\es.length = m * sz/\∀ e ∈ L,e.length = sz:=by
 cases x <;> first | (cases e; done) | skip
 ·exact ⟨0,[],e,λG _=>⟨[],rfl,rfl,rfl,by simp,λe he=>absurd he List.not_mem_nil⟩⟩
 ·rename_i a
  have e0:bif' (isSl a) _ FR.no = .ok v h':=e; obtain ⟨hs,e2⟩:=bif_ok e0
  unfold isSl at hs
  split at hs
  ·rename_i es
   split at e2
   ·rename_i l hl
    have hsz:∀ e ∈ l,e.length = sz:=by
     simp only [elemsA] at hl
     split at hl
     ·rename_i hall
      cases hl
      intro e he
      obtain ⟨q,hq,rfl⟩:=List.mem_map.1 he; have:=List.all_eq_true.1 hall q hq
      simpa using this
     ·cases hl
    refine ⟨l.length,fvss l,e2,λG _=>⟨l,hl,rfl,(toAs_fvss l).symm,?_,hsz⟩⟩; rw [<- toAs_length,toAs_fvss,flatF_len hsz]
   ·cases e2
  ·cases hs
 ·rename_i l c
  obtain ⟨hz,e1⟩:=bif_ok (show bif' (Nat.beq sz 1) (kk l (bysF l c)) .no = .ok v h' from e); obtain rfl:=Nat.eq_of_beq_eq_true hz; refine ⟨l,_,e1,λG _=>⟨(bys l c).map λb=>[AV.d (.v (.int .u8 b.toNat))],?_,by simp [bys_length],?_,?_,?_⟩⟩
  ·simp [toA,elemsA]
  ·rw [bysF_eq,<- flat_one ((bys l c).map λb=>AV.d (.v (.int .u8 b.toNat))),List.map_map]; rfl
  ·rw [<- toAs_length,bysF_eq,lnn,bys_length,Nat.mul_one]
  ·intro e he
   obtain ⟨q,_,rfl⟩:=List.mem_map.1 he
   rfl
 ·rename_i p o n c z'
  obtain ⟨q,cs,z,hp,e1⟩:=cellsOf_ok (show cellsOf h p _ = .ok v h' from e); obtain ⟨hle,e2⟩:=bif_ok e1; obtain ⟨hz,e3⟩:=bif_ok e2; obtain rfl:=Nat.eq_of_beq_eq_true hz; have hle:=Nat.le_of_ble_eq_true hle; refine ⟨n,_,e3,λG hG=>⟨(List.range n).map λi=>((padL z q cs).drop (o + i * z')).take z',?_,by simp,?_,by rw [takN_length]; rfl,?_⟩⟩
  ·have:=hG (num p) (by simp [nmOf,Lg.ns])
   rw [hr.cells hp] at this; simp only [toA,elemsA,this,padL_length]; rw [if_pos ⟨hle,trivial⟩]
  ·rw [flat_drop _ _ _ _ (by rw [padL_length]; exact hle),show Nat.mul n z' = n * z' from rfl,toAs_takN z (n * z') o q cs hle]
  ·intro e he
   obtain ⟨i,hi,rfl⟩:=List.mem_map.1 he; have hi:=List.mem_range.1 hi; have h1:o + n * z'<=q:=hle; have h2:(i + 1) * z'<=n * z':=Nat.mul_le_mul_right _ hi; rw [Nat.succ_mul] at h2; rw [List.length_take,List.length_drop,padL_length]; omega
theorem o_b2s (hx:get S x' = toA x) (hr:HpR h H) (hrd:(nmOf x).ns ⊆ rd) (e:k_b2s x h = .ok v h'):Res h H v h' rd λG a G'=>evK (.b2s x') S G = some (a,G'):=by
 have key:isStr (toA x) = false/\elemsF 1 x h (λm es=>codeF es λc=>mkS m c h) = .ok v h':=by
  cases x <;> first | (cases e; done) | skip
  ·exact ⟨rfl,e⟩
  ·rename_i a
   refine ⟨?_,e⟩; obtain ⟨hs,-⟩:=bif_ok (show bif' (isSl a) _ FR.no = .ok v h' from e)
   unfold isSl at hs
   split at hs
   ·rfl
   ·cases hs
  ·exact ⟨rfl,e⟩
 obtain ⟨hs,e1⟩:=key; obtain ⟨m,es,e2,hG⟩:=elemsF_ok hr e1; have code:∀ {es:List FV} {k:Nat->FR} {v:FV} {h':Hp},codeF es k = .ok v h'->∀ {L:List (List AV)},(∀ e ∈ L,e.length = 1)->L.flatten = toAs es->∃ c,k c = .ok v h'/\bytesOf L = some (bys es.length c):=by
  intro es
  induction es with
  | nil =>
   intro k v h' e L h1 hL
   have:L = []:=by
    have:=flatF_len h1; rw [hL] at this; simp [toAs] at this; exact List.eq_nil_of_length_eq_zero this.symm
   subst this; exact ⟨0,e,rfl⟩
  | cons a r ih =>
   intro k v h' e L h1 hL
   obtain ⟨t,n,rfl,e1⟩:=onI_ok (show onI _ a = .ok v h' from e); obtain ⟨ht,e2⟩:=bif_ok e1; obtain ⟨q,rfl,e3⟩:=onN_ok e2; obtain rfl:t = .u8:=by cases t <;> first | rfl | cases ht
   match L,h1,hL with
   | [],_,hL=>simp [toAs] at hL
   | [] :: L,h1,_=>simp at h1
   | (_ :: _ :: _) :: L,h1,_=>simp at h1
   | [b] :: L,h1,hL =>
    simp only [List.flatten_cons,List.cons_append,List.nil_append,toAs,List.cons.injEq] at hL; obtain ⟨rfl,hL⟩:=hL; obtain ⟨c,e4,e5⟩:=ih e3 (λe he=>h1 e (List.mem_cons_of_mem _ he)) hL; rw [fN_eq] at e4; refine ⟨_,e4,?_⟩; simp only [toA,bytesOf,e5]; rw [List.length_cons,bys]; simp only [Option.some.injEq,List.cons.injEq]; refine ⟨?_,?_⟩
    ·show UInt8.ofNat (Int.toNat (q:Int)) = UInt8.ofNat ((q % 256 + 256 * c) % 256)
     rw [Int.toNat_natCast,Nat.add_mul_mod_self_left,Nat.mod_mod]; exact UInt8.toNat_inj.1 (by simp)
    ·show bys r.length c = bys r.length ((q % 256 + 256 * c) / 256)
     rw [Nat.add_mul_div_left _ _ (by decide),Nat.div_eq_of_lt (Nat.mod_lt _ (by decide)),Nat.zero_add]
 obtain ⟨L0,q1,q2,q3,q4,q5⟩:=hG H λ_ _=>rfl
 obtain ⟨c,e3,e4⟩:=code e2 q5 q3; rw [mkS_eq] at e3
 cases e3
 refine ⟨[],H,hr,.refl h H,λu hu=>?_⟩; obtain ⟨L,p1,p2,p3,p4,p5⟩:=hG (kill u H) λb hb=>kill_out u H λhbu=>(hu b hbu).1 (hrd hb)
 obtain ⟨c',e5,e6⟩:=code e2 p5 p3; rw [mkS_eq] at e5; simp only [FR.ok.injEq,FV.s.injEq,and_true,true_and] at e5; have hc:c' = c:=e5; subst hc; simp only [evK,hx,hs,if_true,p1,e6,toA]; rw [show es.length = m by rw [p4,Nat.mul_one]]
end
end
end Go.Proofs.YtofpekbidngnfaaGreatDoor
