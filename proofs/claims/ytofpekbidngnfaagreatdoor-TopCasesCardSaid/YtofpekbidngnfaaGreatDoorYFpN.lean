/-
  One's own library, part 8e: a range over a map: the step.
-/
import Derived.Test.YtofpekbidngnfaaGreatDoorYDraw2
import Derived.Test.YtofpekbidngnfaaGreatDoorYFpK
set_option linter.constructorNameAsVariable false
set_option linter.unusedSectionVars false
set_option linter.unusedSimpArgs false
set_option linter.unusedVariables false
namespace Go.Proofs.YtofpekbidngnfaaGreatDoor
open Go.RowKit
section
variable {P:Program} {hint:Nat->Option Md} {nb:Nat}
theorem wpIns_app:∀ {l1 l2:List Ins} {s:List AV} {H:List ABlk} {Kk:List AV->List ABlk->Prop},wpIns P l1 s H (λs' H'=>wpIns P l2 s' H' Kk)->wpIns P (l1 ++ l2) s H Kk
 | [],l2,s,H,Kk,h=>h
 | i :: l1,l2,s,H,Kk,h=>by
  have ih:=λ(s:List AV) (H:List ABlk)=>wpIns_app (l1:=l1) (l2:=l2) (s:=s) (H:=H) (Kk:=Kk)
  rw [List.cons_append]; simp only [wpIns] at h ⊢
  split at h
  ·rename_i hw
   split at h
   ·rename_i f args e
    exact h.mono λv' H'' hh=>ih _ _ hh
   ·rename_i g args e
    split at h
    ·rename_i hfn
     exact ⟨h.1,h.2.mono λv' H'' hh=>ih _ _ hh⟩
    ·rename_i hfn
     exact ⟨h.1,h.2.mono λv' H'' hh=>ih _ _ hh⟩
    ·exact h.elim
   ·rename_i tb x args e
    split at h
    ·split at h
     ·rename_i hf
      exact h.mono λv' H'' hh=>ih _ _ hh
     ·exact h.elim
    ·exact h.elim
   ·split at h
    ·exact ih _ _ h
    ·exact h.elim
  ·exact ih _ _ h
  ·exact h.elim
theorem compK_nxt {o:Oper} {x:Opd} (h:compK P hint o = some (.nxt x)):∃ y,o.op = .next y false/\opd y = some x:=by
 unfold compK at h
 split at h <;> (try (repeat' split at h)) <;> (try (simp only [Option.map_eq_some_iff] at h)) <;> (try (cases h; done)) <;> (try (obtain ⟨_,_,h⟩:=h; cases h; done))
 all_goals first
  | (rename_i y ho; obtain ⟨x',hx,he⟩:=h; cases he; exact ⟨y,ho,hx⟩)
  | skip
theorem W.nxt {d x:Nat} {r:List Ins} {s:List AV} {H:List ABlk} {Q:APost} {q m since last:Nat} {seen:List Nat} {kt:KT} {ck:Nat} {es:List (Value × AV × Nat)} (hx:s.getD x .any = .ptr q 0) (hq:H[q]? = some (.iter m since seen last))
 (hm:H[m]? = some (.map kt ck es)) (hold:∀ e ∈ es,e.2.2 < since) (hsl:since<=last)
 (h1:∀ e ∈ es,e.2.2 ∉ seen->wpIns P r (setO s (some d) (.tup [.d (.v (.bool true)),.any,.any])) (H.set q (.iter m since (seen ++ [e.2.2]) ck)) (Q .normal))
 (h2:(∀ e ∈ es,e.2.2 ∈ seen)->wpIns P r (setO s (some d) (.tup [.d (.v (.bool false))])) H (Q .normal)):W P hint nb (.reg (⟨some d,.nxt (.t x),none⟩ :: r)) s H Q:=by
 intro c hc σ a w h hs
 obtain ⟨id,ops,rfl,hl⟩:=comp_reg hc; refine wp_region_list ?_
 generalize ops.toList = os at hl
 cases os with
 | nil=>simp [compL] at hl
 | cons o os =>
  simp only [compL] at hl
  split at hl
  ·rename_i i l' e1 e2
   cases hl
   obtain ⟨g1,g2,g3⟩:=guard_sound e1 hs (b:=true) rfl; obtain ⟨y,ho,hy⟩:=compK_nxt g3; have hv:=get_sound hy hs; rw [show get s (.t x) = .ptr q 0 from hx] at hv
   show (if Region.wanted o (yielded ops a.tmps) then _ else _)
   rw [g1,if_pos rfl]
   left
   have g2:o.dst = some d:=g2.symm; rcases next_sound h hv hq hm ho hold hsl with ⟨h3,h4⟩ | ⟨e,he,hn,w',u,v,h4,h5,h6⟩
   ·unfold Oper.wp
    rw [h4,Oper.upon_value]; have t:VRs σ [.d (.v (.bool false))] [.bool false]:=VRs.cons (.plain rfl) VRs.nil; refine list_sound e2 (.refl ..) h (hs.put o.dst (x:=.tup [.d (.v (.bool false))]) (v:=.tuple #[.bool false]) (VR.tup t.1 t.2)) ?_; rw [g2]; exact h2 h3
   ·unfold Oper.wp
    rw [h4,Oper.upon_value]; have t:VRs σ [.d (.v (.bool true)),.any,.any] [.bool true,u,v]:=VRs.cons (.plain rfl) (VRs.cons .any (VRs.cons .any VRs.nil)); refine list_sound e2 (h5.toN nb) h6 (hs.put o.dst (x:=.tup [.d (.v (.bool true)),.any,.any]) (v:=.tuple #[.bool true,u,v]) (VR.tup t.1 t.2)) ?_; rw [g2]; exact h1 e he hn
  ·cases hl
end
noncomputable section
structure RL where
 l0:List Ins
 x:Nat
 m:Nat
 d:Nat
 b:Nat
 e:Nat
 id:Nat
 id2:Nat
 l2:List Ins
 c2:AC
def RL.body (r:RL):AC:=.seq (.cond (.t r.b) .skip (.exit r.id)) (.block r.id2 (.seq (.reg (⟨some r.e,.ent (.t r.x),none⟩ :: r.l2)) r.c2))
def RL.step (r:RL):AC:=.seq (.reg [⟨some r.d,.nxt (.t r.x),none⟩,⟨some r.b,.ext (.t r.d) 0,none⟩]) r.body
def RL.ac (r:RL):AC:=.seq (.reg (r.l0 ++ [⟨some r.x,.rng (.t r.m),none⟩])) (.block r.id (.loop r.step))
def mkK (ks:List Nat) (s:Fr):Fr:=List.rec (motive:=λ_=>Fr) fE (λn _ ih=>slotS n (slot n s) ih) ks
def sameK (ks:List Nat) (s s':Fr):Bool:=List.rec (motive:=λ_=>Bool) true (λn _ ih=>bif' (feq (slot n s) (slot n s')) ih false) ks
def anyB (x:FV):Bool:=FV.rec (motive_1:=λ_=>Bool) (motive_2:=λ_=>Unit) true false false false false false false (λ_=>false) (λ_=>false) (λ_ _ _=>false) (λ_ _ _=>false) (λ_ _ _=>false) (λ_ _=>false) (λ_ _=>false) (λ_ _ _ _ _=>false) (λ_ _=>false) (λ_=>false) (λ_ _=>false) (λ_ _=>false) () (λ_ _ _ _=>()) x
def fbeq (x y:FB):Bool:=FB.rec (motive:=λ_=>Bool) false (λ_ _ _ _=>false) (λ_ _ _=>false)
 (λn cs z=>FB.rec (motive:=λ_=>Bool) false (λ_ _ _ _=>false) (λ_ _ _=>false) (λn' cs' z'=>bif' (Nat.beq n n') (bif' (feqL cs cs') (bif' (anyB z) (anyB z') (feq1 z z')) false) false) (λ_ _=>false) y) (λ_ _=>false) x
def eqHp (n0:Nat) (l:Lg) (hA hB:Hp):Bool:=onHp hA λtA nA _=>onHp hB λtB nB _=>bif' (Nat.beq nA nB) (Lg.rec (motive:=λ_=>Bool) true (λp _ ih=>bif' (bif' (Nat.ble n0 (num p)) true (fbeq (hget p tA) (hget p tB))) ih false) l) false
section
variable (F:FC') (okf:Nat->Bool) (lp x d b e id2:Nat) (ks:List Nat) (l2:FIs) (c2:FC) (p q:Pth) (ck:Nat) (sL:Fr)
def finF (n:Nat) (kk:Lg->Hp->FX) (s:Fr) (h:Hp):FX:=
 onHp h λt n' lg=>bif' (inL p lg) .no (bif' (inL q lg) .no (bif' (sameK ks s sL) (kk lg (killL (nmsFrom n n') (.mk t n' lg))) .no))
def roundF (k v:FV) (c:Nat) (seen:List Nat) (h:Hp) (kk:Lg->Hp->FX):FX:=
 onHp h λt n _ =>
  onX3 (λe1 s h=>FE.rec (motive:=λ_=>FX) (onX3 (λe2 s h=>FE.rec (motive:=λ_=>FX) (finF ks p q sL n kk s h) .no (λi=>bif' (Nat.beq i id2) (finF ks p q sL n kk s h) .no) e2) (fA F okf lp c2 s h)) .no (λ_=>.no) e1)
   (fIs F okf l2 (slotS e (.tup [k,v]) (slotS b (.b true) (slotS d (.tup [.b true,.any,.any]) sL))) (.mk (hset (.it p ck (appN seen c) ck) q t) n .nil))
def finR (n0:Nat) (lg:Lg) (h:Hp):FX:=onHp h λt n l=>.ok .nrm (slotS b (.b false) (slotS d (.tup [.b false]) sL)) (onHp (killL (nmsFrom n0 n) (.mk t n l)) λt n _=>.mk t n lg)
def rl2F (n0:Nat) (lg:Lg) (es:Es) (h:Hp):FX:=
 match es with
 | .nil=>finR d b sL n0 lg h
 | .cons k v c .nil=>roundF F okf lp d b e id2 ks l2 c2 p q ck sL k v c [] h λl h=>finR d b sL n0 (appLg l lg) h
 | .cons k v c (.cons k' v' c' .nil)=>bif' (Nat.beq c c') .no
  (roundF F okf lp d b e id2 ks l2 c2 p q ck sL k v c [] h fun l1 h1 => roundF F okf lp d b e id2 ks l2 c2 p q ck sL k' v' c' [c] h1 fun l2' hA =>
    roundF F okf lp d b e id2 ks l2 c2 p q ck sL k' v' c' [] h λl3 h3=>roundF F okf lp d b e id2 ks l2 c2 p q ck sL k v c [c'] h3 λl4 hB =>
     bif' (eqHp n0 (appLg l1 (appLg l2' (appLg l3 l4))) hA hB) (finR d b sL n0 (appLg (appLg l2' l1) lg) hA) .no)
 | _=>.no
end
def bornB (ck:Nat) (es:Es):Bool:=Es.rec (motive:=λ_=>Bool) true (λ_ _ c _ ih=>bif' (Nat.blt c ck) ih false) es
def onFMX (k:KT->Nat->Es->FX) (x:FB):FX:=FB.rec (motive:=λ_=>FX) .no (λ_ _ _ _=>.no) k (λ_ _ _=>.no) (λ_ _=>.no) x
def rlF (F:FC') (okf:Nat->Bool) (lp:Nat) (l0:FIs) (x m d b e id2:Nat) (ks:List Nat) (l2:FIs) (c2:FC) (s:Fr) (h:Hp):FX:=
 onX3 (λe1 s h=>FE.rec (motive:=λ_=>FX)
  (onMX (fun p => onHp h fun t n lg => onFMX (fun kt ck es => bif' (Nat.blt n 32768) (bif' (bornB ck es)
    (rl2F F okf lp d b e id2 ks l2 c2 p (pth n) ck (slotS x (.ptr (pth n) 0) (mkK ks s)) n lg es (.mk (hset (.it p ck [] ck) (pth n) t) (Nat.succ n) .nil)) .no) .no) (hget p t)) (slot m s)) .no (λ_=>.no) e1) (fIs F okf l0 s h)
theorem mkK_slot {ks:List Nat} {s:Fr} (hk:∀ n ∈ ks,n < 512):∀ {m:Nat},m < 512->slot m (mkK ks s) = if m ∈ ks then slot m s else .any:=by
 induction ks with
 | nil=>intro m hm; rw [if_neg List.not_mem_nil]; exact slot_fE m
 | cons n ks ih =>
  intro m hm
  have ih:=ih (λn hn=>hk n (List.mem_cons_of_mem _ hn)) (m:=m) hm; have e:mkK (n :: ks) s = slotS n (slot n s) (mkK ks s):=rfl; rw [e]
  by_cases h:m = n
  ·subst h; rw [slot_set,if_pos List.mem_cons_self]
  ·rw [slot_ne (hk n List.mem_cons_self) hm h,ih]
   simp [h]
def keepA (ks:List Nat) (S:List AV):List AV:=S.mapIdx λn a=>if n ∈ ks then a else .any
theorem keepA_len (ks:List Nat) (S:List AV):(keepA ks S).length = S.length:=by simp [keepA]
theorem keepA_get (ks:List Nat) (S:List AV) (n:Nat):(keepA ks S).getD n .any = if n ∈ ks then S.getD n .any else .any:=by
 simp only [keepA,gDd,List.getElem?_mapIdx]
 cases S[n]? with
 | none=>simp
 | some a=>simp
theorem mkK_ok {ks:List Nat} {s:Fr} {S:List AV} (hk:∀ n ∈ ks,n < 512) (hf:FrR s S):FrR (mkK ks s) (keepA ks S):=by
 refine ⟨by rw [keepA_len]; exact hf.len,λn hn=>?_⟩; rw [keepA_len] at hn; rw [keepA_get,mkK_slot hk (Nat.lt_of_lt_of_le hn hf.len)]
 split
 ·exact hf.at' n hn
 ·rfl
theorem WkL.of {xs ys:List AV} (hl:xs.length = ys.length) (h:∀ i,i < ys.length->Wk1 (xs.getD i .any) (ys.getD i .any)):WkL xs ys:=by
 induction xs generalizing ys with
 | nil=>cases ys with
  | nil=>exact .nil
  | cons y ys=>cases hl
 | cons x xs ih=>cases ys with
  | nil=>cases hl
  | cons y ys =>
   refine .cons (by have:=h 0 (by simp); simpa using this) (ih (by simpa using hl) λi hi=>?_); have:=h (i + 1) (by simp; exact hi)
   simpa using this
theorem sameK_ok {ks:List Nat} {s s':Fr} (h:sameK ks s s' = true):∀ n ∈ ks,toA (slot n s) = toA (slot n s'):=by
 induction ks with
 | nil=>exact λn hn=>absurd hn List.not_mem_nil
 | cons m ks ih =>
  obtain ⟨h1,h2⟩:=bifT (show bif' (feq (slot m s) (slot m s')) (sameK ks s s') false = true from h)
  intro n hn
  rcases List.mem_cons.1 hn with rfl | hn
  ·exact feq_ok h1
  ·exact ih h2 n hn
section
variable {P:Program} {F:FC'} {okf:Nat->Bool} {hint:Nat->Option Md} {nb:Nat}
theorem WR.weak {x:AC} {Q:APost}:∀ {n:Nat} {s s0:List AV} {H H0:List ABlk},Wk nb s H s0 H0->WR P hint nb x Q n s0 H0->WR P hint nb x Q n s H
 | 0,_,_,_,_,_,h=>h
 | n + 1,_,_,_,_,hk,h=>W.weak hk h
theorem keep_wk {ks:List Nat} {s sL:Fr} {S SL:List AV} (hf:FrR s S) (hL:FrR sL SL) (hl:S.length = SL.length) (hk:∀ n,n ∉ ks->SL.getD n .any = .any) (h:sameK ks s sL = true):WkL S SL:=by
 refine WkL.of hl λi hi=>?_
 by_cases hik:i ∈ ks
 ·rw [hf.at' i (by omega),hL.at' i hi,sameK_ok h i hik]; exact .rfl _
 ·rw [hk i hik]; exact .any _
theorem inL_no {p:Pth} {l:Lg} (h:inL p l = false):num p ∉ l.ns:=λhm=>by rw [inL_ok hm] at h; cases h
theorem bifN {c:Bool} {a:FX} {e:FE} {t':Fr} {h':Hp} (h:bif' c .no a = .ok e t' h'):c = false/\a = .ok e t' h':=by cases c with | false=>exact ⟨rfl,h⟩ | true=>cases h
theorem HpR.lgN {t:HT} {n:Nat} {lg lg':Lg} {H:List ABlk} (h:HpR (.mk t n lg) H):HpR (.mk t n lg') H:=⟨h.n,h.lt,h.at',h.out⟩
theorem HpR.setT {t:HT} {n:Nat} {lg lg':Lg} {H:List ABlk} (hr:HpR (.mk t n lg) H) {p:Pth} {x:FB} {k:ABlk} (hx:BkR x k) (hl:num p < H.length):HpR (.mk (hset x p t) n lg') (H.set (num p) k):=
 HpR.lgN (lg:=.cons p lg) (hr.set (p:=p) (x:=x) (k:=k) hx hl)
theorem ns_from {n m:Nat} (h:n<=m) (hm:m<=32768) {b:Nat}:b ∈ (nmsFrom n m).ns ↔ n<=b/\b < m:=by
 have:=nmsFrom_ok (m - n) n (by omega) (b:=b)
 rwa [show n + (m - n) = m by omega] at this
theorem keyP_AV {k:FV} {kv:Value} (hk:keyP k) (hkv:keyOf (toA k) = some kv):toA k = keyAV kv:=by
 have one:∀ {a:FV},keyP1 a->∃ v,keyOf1 (toA a) = some v/\toA a = .d (.v v)/\(∀ cs,v ≠ .agg cs):=λ{a} h=>by
  rcases h with ⟨t,rfl⟩ | ⟨k,n,rfl⟩ | ⟨l,c,rfl⟩
  ·exact ⟨_,rfl,rfl,λcs h=>by cases h⟩
  ·exact ⟨_,rfl,rfl,λcs h=>by cases h⟩
  ·exact ⟨_,rfl,rfl,λcs h=>by cases h⟩
 rcases hk with hk | ⟨cs,rfl,hcs⟩
 ·obtain ⟨v,h1,h2,h3⟩:=one hk
  have:kv = v:=by
   rw [h2] at hkv h1; have h1:(if plainV v then some v else none) = some v:=h1; have hkv:(if plainV v then some v else none) = some kv:=hkv; rw [h1] at hkv; cases hkv; rfl
  subst this; rw [h2]
  cases kv <;> first | rfl | exact absurd rfl (h3 _)
 ·have hkv:(match keysOf (toAs cs) with | some l=>some (Value.agg l.toArray) | none=>none) = some kv:=hkv
  have lst:∀ {cs:List FV} {l:List Value},(∀ c ∈ cs,keyP1 c)->keysOf (toAs cs) = some l->toAs cs = l.map λc=>AV.d (.v c):=by
   intro cs
   induction cs with
   | nil=>intro l _ h; cases h; rfl
   | cons c cs ih =>
    intro l hc h
    obtain ⟨v,h1,h2,_⟩:=one (hc c List.mem_cons_self); have h:(match keyOf1 (toA c),keysOf (toAs cs) with | some v,some vs=>some (v :: vs) | _,_=>none) = some l:=h; rw [h1] at h
    cases hq:keysOf (toAs cs) with
    | none=>rw [hq] at h; cases h
    | some vs =>
     rw [hq] at h
     cases h
     simp only [toAs,List.map_cons,h2,ih (λc hc'=>hc c (List.mem_cons_of_mem _ hc')) hq]
  cases hq:keysOf (toAs cs) with
  | none=>rw [hq] at hkv; cases hkv
  | some l =>
   rw [hq] at hkv
   cases hkv
   simp only [toA,keyAV,lst hcs hq]
theorem round_ok (hF:FOk P F) (hok:∀ f,okf f = true->callOk P f = true) (hD:RegOk P hint nb F okf) {lp:Nat} {r:RL} {ks:List Nat} {p q:Pth} {ck:Nat} {sL:Fr} {SL:List AV} {t:HT} {n:Nat} {lg0:Lg} {HL:List ABlk}
 {kt:KT} {es:List (Value × AV × Nat)} {seen0 seen:List Nat} (hr:HpR (.mk t n lg0) HL) (hfL:FrR sL SL) (hks:∀ n,n ∉ ks->SL.getD n .any = .any)
 (hin:∀ i ∈ r.l2,InsIn SL.length i) (hc2:okA SL.length r.c2 = true) (hd:r.d < SL.length) (hb:r.b < SL.length) (he:r.e < SL.length) (hxd:r.x ≠ r.d) (hxb:r.x ≠ r.b) (hxL:SL.getD r.x .any = .ptr (num q) 0)
 (hq:HL[num q]? = some (.iter (num p) ck seen0 ck)) (hp:HL[num p]? = some (.map kt ck es)) {k v:FV} {c:Nat} {kv:Value} (hkp:keyP k) (hkv:keyOf (toA k) = some kv) (hent:entAt es c = some (kv,toA v,c))
 {kk:Lg->Hp->FX} {e1:FE} {t':Fr} {h':Hp} (hx:roundF F okf lp r.d r.b r.e r.id2 ks (fis r.l2) (fc r.c2) p q ck sL k v c seen (.mk t n lg0) kk = .ok e1 t' h') :
 ∃ lg1 t1 n1 H1,kk lg1 (.mk t1 n1 lg1) = .ok e1 t' h'/\HpR (.mk t1 n1 lg1) H1/\(HL.length<=H1.length/\(∀ b ∈ lg1.ns,b < H1.length)/\(∀ b,b < HL.length->b ≠ num q->b ∉ lg1.ns->H1[b]? = HL[b]?)/\∀ b ∈ lg1.ns,b < HL.length->HL[b]? ≠ some .dead)/\num p ∉ lg1.ns/\num q ∉ lg1.ns/\H1[num q]? = some (.iter (num p) ck (seen ++ [c]) ck)/\H1[num p]? = some (.map kt ck es) /\
  ∀ (K:List AV->List ABlk->Prop) (Q:APost),(∀ s0 H0,Wk nb s0 H0 SL H1->K s0 H0) ->
   W P hint nb r.body (setO (setO SL (some r.d) (.tup [.d (.v (.bool true)),.any,.any])) (some r.b) (.d (.v (.bool true)))) (HL.set (num q) (.iter (num p) ck (seen ++ [c]) ck)) (APost.then K Q):=by
 have hpq:num p ≠ num q:=λh=>by rw [h,hq] at hp; cases hp
 have hql:num q < HL.length:=(List.getElem?_eq_some_iff.1 hq).1; have hl512:=hfL.len; have app:appN seen c = seen ++ [c]:=by
  clear hx
  induction seen with
  | nil=>rfl
  | cons a s ih=>show a :: appN s c = _; rw [ih]; rfl
 obtain ⟨e2,s2,h2,x1,x2⟩:=onX3_ok (show onX3 (λe1 s h=>FE.rec (motive:=λ_=>FX) (onX3 (λe2 s h=>FE.rec (motive:=λ_=>FX) (finF ks p q sL n kk s h) .no (λi=>bif' (Nat.beq i r.id2) (finF ks p q sL n kk s h) .no) e2) (fA F okf lp (fc r.c2) s h)) .no (λ_=>.no) e1)
  (fIs F okf (fis r.l2) (slotS r.e (.tup [k,v]) (slotS r.b (.b true) (slotS r.d (.tup [.b true,.any,.any]) sL))) (.mk (hset (.it p ck (appN seen c) ck) q t) n .nil)) = .ok e1 t' h' from hx)
 rw [app] at x1; have hr1:HpR (.mk (hset (.it p ck (seen ++ [c]) ck) q t) n .nil) (HL.set (num q) (.iter (num p) ck (seen ++ [c]) ck)):=hr.setT rfl hql; have f1:FrR (slotS r.d (.tup [.b true,.any,.any]) sL) (setO SL (some r.d) (.tup [.d (.v (.bool true)),.any,.any])):=hfL.set (by omega) (.tup [.b true,.any,.any]); have f2:FrR (slotS r.b (.b true) (slotS r.d (.tup [.b true,.any,.any]) sL)) (setO (setO SL (some r.d) (.tup [.d (.v (.bool true)),.any,.any])) (some r.b) (.d (.v (.bool true)))):=f1.set (by omega) (.b true); have f3:=f2.set (n:=r.e) (by omega) (.tup [k,v])
 generalize hS2:setO (setO SL (some r.d) (.tup [.d (.v (.bool true)),.any,.any])) (some r.b) (.d (.v (.bool true))) = S2 at f2 f3 ⊢
 have hlS2:S2.length = SL.length:=by rw [<- hS2,setO_length,setO_length]
 have hlS3:(setO S2 (some r.e) (toA (.tup [k,v]))).length = SL.length:=by rw [setO_length,hlS2]
 obtain ⟨rfl,pre2,S4,H4,a4,b4,f4,l4,w4⟩:=fIs_ok (P:=P) hF hok (λi hi=>by rw [hlS3]; exact hin i hi) f3 hr1 x1; obtain ⟨e3,s3,h3,x3,x4⟩:=onX3_ok (show onX3 (λe2 s h=>FE.rec (motive:=λ_=>FX) (finF ks p q sL n kk s h) .no (λi=>bif' (Nat.beq i r.id2) (finF ks p q sL n kk s h) .no) e2) (fA F okf lp (fc r.c2) s2 h2) = .ok e1 t' h' from x2); obtain ⟨pre5,S5,H5,a5,b5,f5,l5,w5⟩:=fA_ok (P:=P) (hint:=hint) (nb:=nb) hF hok hD hc2 (by rw [l4,hlS3]; exact Nat.le_refl _) f4 a4 x3; have fr:=b4.b.trans b5.b; have hlog:h3.lg.ns = pre5 ++ pre2:=by
  rw [b5.log,b4.log]; exact congrArg (pre5 ++ ·) (List.append_nil _)
 have hlen1:(HL.set (num q) (ABlk.iter (num p) ck (seen ++ [c]) ck)).length = HL.length:=List.length_set; have done:finF ks p q sL n kk s3 h3 = .ok e1 t' h'->(toE e3 = .normal\/toE e3 = .exit r.id2)->∃ lg1 t1 n1 H1,kk lg1 (.mk t1 n1 lg1) = .ok e1 t' h'/\HpR (.mk t1 n1 lg1) H1/\(HL.length<=H1.length/\(∀ b ∈ lg1.ns,b < H1.length)/\(∀ b,b < HL.length->b ≠ num q->b ∉ lg1.ns->H1[b]? = HL[b]?)/\∀ b ∈ lg1.ns,b < HL.length->HL[b]? ≠ some .dead)/\num p ∉ lg1.ns/\num q ∉ lg1.ns/\H1[num q]? = some (.iter (num p) ck (seen ++ [c]) ck)/\H1[num p]? = some (.map kt ck es) /\
  ∀ (K:List AV->List ABlk->Prop) (Q:APost),(∀ s0 H0,Wk nb s0 H0 SL H1->K s0 H0)->W P hint nb r.body S2 (HL.set (num q) (.iter (num p) ck (seen ++ [c]) ck)) (APost.then K Q):=λy1 hE=>by
  cases h3 with
  | mk t3 n3 lg3 =>
   obtain ⟨z1,y2⟩:=bifN (show bif' (inL p lg3) .no (bif' (inL q lg3) .no (bif' (sameK ks s3 sL) (kk lg3 (killL (nmsFrom n n3) (.mk t3 n3 lg3))) .no)) = .ok e1 t' h' from y1); obtain ⟨z2,y3⟩:=bifN y2; obtain ⟨z3,y4⟩:=bifX y3; have hlog:lg3.ns = pre5 ++ pre2:=hlog; have hnn:n<=n3:=by have:=fr.len; rw [hlen1] at this; rw [show n = HL.length from hr.n,show n3 = H5.length from a5.n]; exact this
   obtain ⟨k1,k2⟩:=killL_ok a5 (nmsFrom n n3); have hmem:∀ {b:Nat},b ∈ (nmsFrom n n3).ns ↔ n<=b/\b < n3:=ns_from hnn a5.lt; have hold:∀ b,b < HL.length->(kill (nmsFrom n n3).ns H5)[b]? = H5[b]?:=λb hb=>kill_out _ _ λhm=>by have:=hmem.1 hm; have:=show n = HL.length from hr.n; omega
   have hno1:num p ∉ pre5 ++ pre2:=by rw [<- hlog]; exact inL_no z1
   have hno2:num q ∉ pre5 ++ pre2:=by rw [<- hlog]; exact inL_no z2
   have hpl:num p < HL.length:=(List.getElem?_eq_some_iff.1 hp).1; have hmk:killL (nmsFrom n n3) (.mk t3 n3 lg3) = .mk (killL (nmsFrom n n3) (.mk t3 n3 lg3)).ht n3 lg3:=by
    have hn:(killL (nmsFrom n n3) (.mk t3 n3 lg3)).n = n3:=by rw [k1.n,kill_length]; exact a5.n.symm
    revert k2 hn
    generalize killL (nmsFrom n n3) (.mk t3 n3 lg3) = hh
    cases hh with
    | mk a b c =>
     intro h1 h2
     have h1:c = lg3:=h1; have h2:b = n3:=h2; subst h1; subst h2; rfl
   refine ⟨lg3,(killL (nmsFrom n n3) (.mk t3 n3 lg3)).ht,n3,kill (nmsFrom n n3).ns H5,?_,?_,⟨by rw [kill_length]; have:=fr.len; omega,λb hb=>?_,λb hb hbq hn=>?_,λb hb hl=>?_⟩,inL_no z1,inL_no z2,?_,?_,λK Q hK=>?_⟩
   ·rw [<- hmk]; exact y4
   ·rw [<- hmk]; exact k1
   ·rw [kill_length]; rw [hlog] at hb; exact fr.lt b hb
   ·rw [hold b hb,fr.fr b (by omega) (by rw [<- hlog]; exact hn),List.getElem?_set_ne (Ne.symm hbq)]
   ·have:=fr.live b (by rw [<- hlog]; exact hb) (by omega)
    by_cases e:b = num q
    ·rw [e,hq]; exact λh=>by cases h
    ·rwa [List.getElem?_set_ne (Ne.symm e)] at this
   ·rw [hold _ hql,fr.fr _ (by omega) hno2,List.getElem?_set_self hql]
   ·rw [hold _ hpl,fr.fr _ (by omega) hno1,List.getElem?_set_ne (Ne.symm hpq)]; exact hp
   ·have hwk:Wk nb S5 H5 SL (kill (nmsFrom n n3).ns H5):=(Wk.slots (keep_wk f5 hfL (by rw [l5,l4,hlS3]) hks z3)).trans (Wk.killed _)
    have hgb:get S2 (.t r.b) = .d (.v (.bool true)):=by
     rw [<- hS2]
     show (setO (setO SL (some r.d) _) (some r.b) _).getD r.b .any = _
     rw [setO_getD (by rw [setO_length]; exact hb),if_pos rfl]
    have hgx:get S2 (.t r.x) = .ptr (num q) 0:=by
     have hxl:r.x < SL.length:=by
      rcases Nat.lt_or_ge r.x SL.length with h | h
      ·exact h
      ·rw [gDd,List.getElem?_eq_none h] at hxL; cases hxL
     rw [<- hS2]
     show (setO (setO SL (some r.d) _) (some r.b) _).getD r.x .any = _
     rw [setO_getD (by rw [setO_length]; exact hxl),if_neg (λh=>hxb (Option.some.inj h).symm),setO_getD hxl,if_neg (λh=>hxd (Option.some.inj h).symm)]; exact hxL
    refine W.seq (W.cond true hgb (λ_=>W.skip ?_) (λh=>by cases h)); refine W.block (W.seq (W.reg ?_)); have hev:evK (.ent (.t r.x)) S2 (HL.set (num q) (.iter (num p) ck (seen ++ [c]) ck)) = some (.tup [keyAV kv,toA v],HL.set (num q) (.iter (num p) ck (seen ++ [c]) ck)):=by
     simp only [evK,hgx,List.getElem?_set_self hql,List.getElem?_set_ne (Ne.symm hpq),hp,List.getLast?_append,List.getLast?_singleton,Option.some_or,if_true,hent]
    have hkey:=keyP_AV hkp hkv; simp only [wpIns,wanted,hev]; have w4:=w4 (λs' H'=>W P hint nb r.c2 s' H' (APost.inBlock r.id2 (APost.then K Q))); simp only [toA,toAs,hkey] at w4; refine w4 (w5 _ ?_); rcases hE with hE | hE <;> rw [hE]
    ·exact hK _ _ hwk
    ·simp only [APost.inBlock,if_true]; exact hK _ _ hwk
 cases e3 with
 | ret=>cases x4
 | nrm=>exact done x4 (.inl rfl)
 | ext i =>
  obtain ⟨y0,y1⟩:=bifX (show bif' (Nat.beq i r.id2) (finF ks p q sL n kk s3 h3) .no = .ok e1 t' h' from x4); exact done y1 (.inr (by rw [Nat.eq_of_beq_eq_true y0]; rfl))
structure LS (H1:List ABlk) (l:List Nat) (HX:List ABlk):Prop where
 len:H1.length<=HX.length
 lt:∀ b ∈ l,b < HX.length
 fr:∀ b,b < H1.length->b ∉ l->HX[b]? = H1[b]?
 live:∀ b ∈ l,b < H1.length->H1[b]? ≠ some .dead
theorem LS.step {H1 HX HY:List ABlk} {l l1:List Nat} {q:Nat} (h:LS H1 l HX) (hq:H1.length<=q)
 (k:HX.length<=HY.length/\(∀ b ∈ l1,b < HY.length)/\(∀ b,b < HX.length->b ≠ q->b ∉ l1->HY[b]? = HX[b]?)/\∀ b ∈ l1,b < HX.length->HX[b]? ≠ some .dead):LS H1 (l1 ++ l) HY:=by
 obtain ⟨k1,k2,k3,k4⟩:=k; have:=h.len; refine ⟨by omega,λb hb=>?_,λb hb hn=>?_,λb hb hl=>?_⟩
 ·rcases List.mem_append.1 hb with hb | hb
  ·exact k2 b hb
  ·have:=h.lt b hb; omega
 ·rw [k3 b (by omega) (by omega) λh=>hn (List.mem_append.2 (.inl h)),h.fr b hb λh=>hn (List.mem_append.2 (.inr h))]
 ·by_cases hbl:b ∈ l
  ·exact h.live b hbl hl
  ·rcases List.mem_append.1 hb with hb | hb
   ·rw [<- h.fr b hl hbl]; exact k4 b hb (by omega)
   ·exact absurd hb hbl
theorem fbeq_ok {x y:FB} {k k':ABlk} (h:fbeq x y = true) (hx:BkR x k) (hy:BkR y k'):k = k':=by
 cases x with
 | c n cs z =>
  cases y with
  | c n' cs' z' =>
   obtain ⟨h1,h⟩:=bifT (show bif' (Nat.beq n n') (bif' (feqL cs cs') (bif' (anyB z) (anyB z') (feq1 z z')) false) false = true from h); obtain ⟨h2,h3⟩:=bifT h; have hz:toA z = toA z':=by
    cases hq:anyB z with
    | true =>
     rw [hq] at h3; have h3:anyB z' = true:=h3; have e1:z = .any:=by cases z <;> first | rfl | (cases hq; done)
     have e2:z' = .any:=by cases z' <;> first | rfl | (cases h3; done)
     rw [e1,e2]
    | false=>rw [hq] at h3; exact feq1_ok h3
   have e1:n = n':=Nat.eq_of_beq_eq_true h1; have e2:=feqL_ok h2; have hx:k = .cells (padL z n cs):=hx; have hy:k' = .cells (padL z' n' cs'):=hy; have gd:∀ (l:List FV) (z:FV) (i:Nat),toA (l.getD i z) = (toAs l).getD i (toA z):=λl=>by
    induction l with
    | nil=>intro z i; rfl
    | cons a l ih=>intro z i; cases i with
     | zero=>rfl
     | succ i=>simpa [toAs] using ih z i
   rw [hx,hy,e1]
   unfold padL
   simp only [gd,hz,e2]
  | _=>cases h
 | _=>cases h
theorem eqHp_ok {n0:Nat} {l:Lg} {tA tB:HT} {nA nB:Nat} {lA lB:Lg} (h:eqHp n0 l (.mk tA nA lA) (.mk tB nB lB) = true):nA = nB/\∀ b ∈ l.ns,b < n0->∃ p,num p = b/\fbeq (hget p tA) (hget p tB) = true:=by
 obtain ⟨h1,h2⟩:=bifT (show bif' (Nat.beq nA nB) (Lg.rec (motive:=λ_=>Bool) true (λp _ ih=>bif' (bif' (Nat.ble n0 (num p)) true (fbeq (hget p tA) (hget p tB))) ih false) l) false = true from h); refine ⟨Nat.eq_of_beq_eq_true h1,?_⟩; clear h h1
 induction l with
 | nil=>exact λb hb=>absurd hb List.not_mem_nil
 | cons p l ih =>
  obtain ⟨h3,h4⟩:=bifT (show bif' (bif' (Nat.ble n0 (num p)) true (fbeq (hget p tA) (hget p tB))) (Lg.rec (motive:=λ_=>Bool) true (λp _ ih=>bif' (bif' (Nat.ble n0 (num p)) true (fbeq (hget p tA) (hget p tB))) ih false) l) false = true from h2)
  intro b hb hl
  rcases List.mem_cons.1 hb with rfl | hb
  ·refine ⟨p,rfl,?_⟩
   cases hq:Nat.ble n0 (num p) with
   | true=>have:=Nat.le_of_ble_eq_true hq; omega
   | false=>rw [hq] at h3; exact h3
  ·exact ih h4 b hb hl
theorem bornB_ok {ck:Nat}:∀ {es:Es} {l:List (Value × AV × Nat)},EsR es l->bornB ck es = true->∀ e ∈ l,e.2.2 < ck:=by
 intro es l h
 induction h with
 | nil=>exact λ_ e he=>absurd he List.not_mem_nil
 | cons h1 h2 h3 ih =>
  rename_i k v c r kv l
  intro hb
  obtain ⟨b1,b2⟩:=bifT (show bif' (Nat.blt c ck) (bornB ck r) false = true from hb)
  intro e he
  rcases List.mem_cons.1 he with rfl | he
  ·exact blt_iff.1 b1
  ·exact ih b2 e he
theorem onFMX_ok {k:KT->Nat->Es->FX} {x:FB} {e:FE} {t':Fr} {h':Hp} (h:onFMX k x = .ok e t' h'):∃ kt ck es,x = .m kt ck es/\k kt ck es = .ok e t' h':=by
 cases x with
 | m kt ck es=>exact ⟨kt,ck,es,rfl,h⟩
 | _=>exact absurd (show FX.no = .ok e t' h' from h) (by intro q; cases q)
theorem step_W {r:RL} {p q:Pth} {ck:Nat} {SL:List AV} {HX:List ABlk} {kt:KT} {es:List (Value × AV × Nat)} {seen:List Nat} {QQ:APost} (hd:r.d < SL.length) (hxL:SL.getD r.x .any = .ptr (num q) 0)
 (hq:HX[num q]? = some (.iter (num p) ck seen ck)) (hp:HX[num p]? = some (.map kt ck es)) (hborn:∀ e ∈ es,e.2.2 < ck)
 (h1:∀ e ∈ es,e.2.2 ∉ seen->W P hint nb r.body (setO (setO SL (some r.d) (.tup [.d (.v (.bool true)),.any,.any])) (some r.b) (.d (.v (.bool true)))) (HX.set (num q) (.iter (num p) ck (seen ++ [e.2.2]) ck)) QQ)
 (h2:(∀ e ∈ es,e.2.2 ∈ seen)->W P hint nb r.body (setO (setO SL (some r.d) (.tup [.d (.v (.bool false))])) (some r.b) (.d (.v (.bool false)))) HX QQ):W P hint nb r.step SL HX QQ:=by
 have hg:∀ cs:List AV,get (setO SL (some r.d) (.tup cs)) (.t r.d) = .tup cs:=λcs=>by
  show (setO SL (some r.d) _).getD r.d .any = _
  rw [setO_getD hd,if_pos rfl]
 refine W.seq (W.nxt hxL hq hp hborn (Nat.le_refl _) (λe he hn=>?_) (λhall=>?_))
 ·simp only [wpIns,wanted,evK,hg]
  exact h1 e he hn
 ·simp only [wpIns,wanted,evK,hg]
  exact h2 hall
theorem rl_ok (hF:FOk P F) (hok:∀ f,okf f = true->callOk P f = true) (hD:RegOk P hint nb F okf) {lp:Nat} {r:RL} {ks:List Nat} {t:Fr} {S:List AV} {h:Hp} {H:List ABlk} {e:FE} {t':Fr} {h':Hp}
 (hi0:∀ i ∈ r.l0,InsIn S.length i) (hin:∀ i ∈ r.l2,InsIn S.length i) (hc2:okA S.length r.c2) (hd:r.d < S.length) (hb:r.b < S.length) (he:r.e < S.length) (hx0:r.x < S.length) (hm0:r.m < S.length) (hxd:r.x ≠ r.d) (hxb:r.x ≠ r.b) (hxk:r.x ∈ ks) (hk5:∀ n ∈ ks,n < 512)
 (hf:FrR t S) (hr:HpR h H) (hx:rlF F okf lp (fis r.l0) r.x r.m r.d r.b r.e r.id2 ks (fis r.l2) (fc r.c2) t h = .ok e t' h'):ResC P hint nb r.ac S h H e t' h':=by
 obtain ⟨e1,s1,h1,x1,x2⟩:=onX3_ok (show onX3 (λe1 s h=>FE.rec (motive:=λ_=>FX)
  (onMX (fun p => onHp h fun t n lg => onFMX (fun kt ck es => bif' (Nat.blt n 32768) (bif' (bornB ck es)
    (rl2F F okf lp r.d r.b r.e r.id2 ks (fis r.l2) (fc r.c2) p (pth n) ck (slotS r.x (.ptr (pth n) 0) (mkK ks s)) n lg es (.mk (hset (.it p ck [] ck) (pth n) t) (Nat.succ n) .nil)) .no) .no) (hget p t)) (slot r.m s)) .no (λ_=>.no) e1) (fIs F okf (fis r.l0) t h) = .ok e t' h' from hx)
 obtain ⟨rfl,pre1,S1,H1,a1,b1,f1,l1,w1⟩:=fIs_ok (P:=P) hF hok hi0 hf hr x1; obtain ⟨p,hsm,x3⟩:=onMX_ok x2
 cases h1 with
 | mk T n lg =>
 obtain ⟨kt,ck,esF,hp0,x4⟩:=onFMX_ok (show onFMX _ (hget p T) = .ok e t' h' from x3); obtain ⟨hbn,x5⟩:=bifX x4; obtain ⟨hbo,x6⟩:=bifX x5; obtain ⟨es,hp1,hes⟩:=a1.map hp0; have hborn:=bornB_ok hes hbo; have hn:n = H1.length:=a1.n; have hn5:n < 32768:=blt_iff.1 hbn; have hnq:num (pth n) = n:=num_pth hn5; have hpl:num p < H1.length:=(List.getElem?_eq_some_iff.1 hp1).1
 generalize hq0:pth n = q at x6 hnq
 have hrS:HpR (.mk (hset (.it p ck [] ck) q T) (Nat.succ n) .nil) (H1 ++ [.iter (num p) ck [] ck]):=by
  have e0:newB (.mk T n lg) (.it p ck [] ck) (λp h=>.ok (.ptr p 0) h) = .ok (.ptr q 0) (.mk (hset (.it p ck [] ck) q T) (Nat.succ n) lg):=by
   show Bool.rec (motive:=λ_=>FR) .no (.ok (.ptr (pth n) 0) (.mk (hset (.it p ck [] ck) (pth n) T) (Nat.succ n) lg)) (Nat.blt n 32768) = _
   rw [hbn,hq0]
  obtain ⟨q',h1',_,y2,_,y4⟩:=newB_ok a1 e0 (blk:=.iter (num p) ck [] ck) rfl
  cases y4
  exact y2.lgN
 have hlS:S1.length = S.length:=l1
 generalize hH2:H1 ++ [ABlk.iter (num p) ck [] ck] = H2 at hrS
 have hq2:H2[num q]? = some (.iter (num p) ck [] ck):=by rw [<- hH2,hnq,hn]; simp
 have hp2:H2[num p]? = some (.map kt ck es):=by rw [<- hH2,List.getElem?_append_left hpl]; exact hp1
 have hLS:LS H1 [] H2:=⟨by rw [<- hH2]; simp,λb hb=>absurd hb List.not_mem_nil,λb hb _=>by rw [<- hH2,List.getElem?_append_left hb],λb hb=>absurd hb List.not_mem_nil⟩
 -- the frame that is kept
 have hSLf:FrR (slotS r.x (.ptr q 0) (mkK ks s1)) (setO (keepA ks S1) (some r.x) (.ptr (num q) 0)):=(mkK_ok hk5 f1).set (hk5 _ hxk) (.ptr q 0); have hSLl:(setO (keepA ks S1) (some r.x) (AV.ptr (num q) 0)).length = S.length:=by rw [setO_length,keepA_len,hlS]
 have hSLk:∀ n,n ∉ ks->(setO (keepA ks S1) (some r.x) (AV.ptr (num q) 0)).getD n .any = .any:=λm hm=>by
  by_cases hml:m < (keepA ks S1).length
  ·rw [setO_getD hml,if_neg (λh=>hm (by cases h; exact hxk)),keepA_get,if_neg hm]
  ·rw [gDd,List.getElem?_eq_none (by rw [setO_length]; omega)]; rfl
 have hSLx:(setO (keepA ks S1) (some r.x) (AV.ptr (num q) 0)).getD r.x .any = .ptr (num q) 0:=by
  rw [setO_getD (by rw [keepA_len,hlS]; exact hx0),if_pos rfl]
 have hwk0:Wk nb (setO S1 (some r.x) (.ptr H1.length 0)) H2 (setO (keepA ks S1) (some r.x) (.ptr (num q) 0)) H2:=by
  refine Wk.slots (WkL.of (by rw [setO_length,setO_length,keepA_len]) λi hi=>?_); rw [setO_length,keepA_len] at hi; rw [setO_getD hi,setO_getD (by rw [keepA_len]; exact hi),hnq,hn]
  split
  ·exact .rfl _
  ·rw [keepA_get]; split
   ·exact .rfl _
   ·exact .any _
 generalize hsL:slotS r.x (FV.ptr q 0) (mkK ks s1) = sL at x6 hSLf
 generalize hSL:setO (keepA ks S1) (some r.x) (AV.ptr (num q) 0) = SL at hSLf hSLl hSLk hSLx hwk0
 -- into the loop
 have enter:∀ (Q:APost),WR P hint nb r.step (APost.inBlock r.id Q) 3 SL H2->W P hint nb r.ac S H Q:=λQ hw=>by
  refine W.seq (W.reg (wpIns_app (w1 _ ?_))); have hgm:get S1 (.t r.m) = .mp (num p):=by
   have:=f1.at' r.m (by rw [hlS]; exact hm0); rw [hsm] at this; exact this
  have hev:evK (.rng (.t r.m)) S1 H1 = some (.ptr H1.length 0,H2):=by simp only [evK,hgm,hp1,hH2]
  simp only [wpIns,wanted,hev]; exact W.block (W.rounds 3 (WR.weak hwk0 hw))
 have hdS:r.d < SL.length:=by rw [hSLl]; exact hd
 have hbS:r.b < SL.length:=by rw [hSLl]; exact hb
 have heS:r.e < SL.length:=by rw [hSLl]; exact he
 have hinS:∀ i ∈ r.l2,InsIn SL.length i:=λi hi=>by rw [hSLl]; exact hin i hi
 have hc2S:okA SL.length r.c2 = true:=by rw [hSLl]; exact hc2
 -- the way out
 have leave:∀ (Q:APost) (k:Nat) (HX:List ABlk) (seen U:List Nat),HX[num q]? = some (.iter (num p) ck seen ck)->HX[num p]? = some (.map kt ck es)->(∀ e ∈ es,e.2.2 ∈ seen) ->
  Q .normal (setO (setO SL (some r.d) (.tup [.d (.v (.bool false))])) (some r.b) (.d (.v (.bool false)))) (kill U HX)->WR P hint nb r.step (APost.inBlock r.id Q) (k + 1) SL HX:=λQ k HX seen U hq hp hall hQ=>by
  refine step_W hdS hSLx hq hp hborn (λe he hn=>absurd (hall e he) hn) λ_=>W.weak (Wk.killed U) ?_
  refine W.seq (W.cond false ?_ (λh=>by cases h) λ_=>W.exit ?_)
  ·show (setO (setO SL (some r.d) _) (some r.b) _).getD r.b .any = _
   rw [setO_getD (by rw [setO_length]; exact hbS),if_pos rfl]
  ·show APost.inBlock r.id Q (.exit r.id) _ _
   simp only [APost.inBlock,if_true]; exact hQ
 -- what stands behind
 have fin:∀ {lgs:Lg} {T2:HT} {n2:Nat} {lg2:Lg} {HX:List ABlk},HpR (.mk T2 n2 lg2) HX->LS H1 lgs.ns HX->finR r.d r.b sL n (appLg lgs lg) (.mk T2 n2 lg2) = .ok e t' h' ->
  (∀ Q:APost,Q .normal (setO (setO SL (some r.d) (.tup [.d (.v (.bool false))])) (some r.b) (.d (.v (.bool false)))) (kill (nmsFrom n n2).ns HX)->W P hint nb r.ac S H Q)->ResC P hint nb r.ac S h H e t' h':=λ{lgs T2 n2 lg2 HX} hrX hl hE hW=>by
  obtain ⟨k1,k2⟩:=killL_ok hrX (nmsFrom n n2); have hn2:n2 = HX.length:=hrX.n; have hnn:n<=n2:=by have:=hl.len; omega
  have hmem:∀ {b:Nat},b ∈ (nmsFrom n n2).ns ↔ n<=b/\b < n2:=ns_from hnn hrX.lt
  unfold finR onHp at hE
  cases hk:killL (nmsFrom n n2) (.mk T2 n2 lg2) with
  | mk T3 n3 lg3 =>
   rw [hk] at k1; have hE:FX.ok .nrm (slotS r.b (.b false) (slotS r.d (.tup [.b false]) sL)) (onHp (killL (nmsFrom n n2) (.mk T2 n2 lg2)) λt n _=>.mk t n (appLg lgs lg)) = .ok e t' h':=hE; rw [hk] at hE
   cases hE
   have g1:FrR (slotS r.d (.tup [.b false]) sL) (setO SL (some r.d) (.tup [.d (.v (.bool false))])):=hSLf.set (by have:=hSLf.len; omega) (.tup [.b false]); have g2:=g1.set (n:=r.b) (by have:=hSLf.len; omega) (.b false); refine ⟨lgs.ns ++ pre1,_,kill (nmsFrom n n2).ns HX,k1.lgN,b1.trans (H1:=H1) ⟨by rw [kill_length]; exact hl.len,ns_app ..,λb hb=>by rw [kill_length]; exact hl.lt b hb,λb hb hnb=>?_,hl.live⟩,g2,by rw [setO_length,setO_length,hSLl],hW⟩; rw [kill_out _ _ λhm=>by have:=hmem.1 hm; omega]; exact hl.fr b hb hnb
 have rnd:=λ{T2:HT} {n2:Nat} {lg2:Lg} {HL:List ABlk} {seen0 seen:List Nat} {k v:FV} {c:Nat} {kv:Value} {kk:Lg->Hp->FX} (hr2:HpR (.mk T2 n2 lg2) HL) (hqq:HL[num q]? = some (.iter (num p) ck seen0 ck)) (hpp:HL[num p]? = some (.map kt ck es)) (h3:keyP k) (h4:keyOf (toA k) = some kv) (h5:entAt es c = some (kv,toA v,c))
  (hxx:roundF F okf lp r.d r.b r.e r.id2 ks (fis r.l2) (fc r.c2) p q ck sL k v c seen (.mk T2 n2 lg2) kk = .ok e t' h')=>round_ok (P:=P) (hint:=hint) (nb:=nb) hF hok hD hr2 hSLf hSLk hinS hc2S hdS hbS heS hxd hxb hSLx hqq hpp h3 h4 h5 hxx
 have hqn:H1.length<=num q:=by omega
 cases hes with
 | nil =>
  refine fin (lgs:=.nil) hrS hLS x6 λQ hQ=>enter Q (leave Q 2 H2 [] _ hq2 hp2 (λe he=>absurd he List.not_mem_nil) hQ)
 | cons h1 h2 h3 =>
 rename_i k v c rF kv l
 cases h3 with
 | nil =>
  have hent:entAt [(kv,toA v,c)] c = some (kv,toA v,c):=by simp [entAt]
  obtain ⟨lg1,T1,n1,HR,y1,y2,y3,y4,y5,y6,y7,y8⟩:=rnd (seen:=[]) hrS hq2 hp2 h1 h2 hent x6; refine fin (lgs:=lg1) y2 ?_ y1 λQ hQ=>enter Q (step_W hdS hSLx hq2 hp2 hborn (λe he hn=>?_) λhall=>absurd (hall _ List.mem_cons_self) List.not_mem_nil)
  ·have:=hLS.step hqn y3
   rwa [List.append_nil] at this
  ·obtain rfl:e = (kv,toA v,c):=by simpa using he
   refine y8 _ _ λs0 H0 hk=>WR.weak hk (leave Q 1 HR [c] _ y6 y7 (λe he=>by
    obtain rfl:e = (kv,toA v,c):=by simpa using he
    simp) hQ)
 | cons h4 h5 h6 =>
 rename_i k' v' c' rF' kv' l'
 cases h6 with
 | cons h7 h8 h9=>exact absurd (show FX.no = .ok e t' h' from x6) (by intro q; cases q)
 | nil =>
  obtain ⟨hcc,x7⟩:=bifN x6; have hne:c ≠ c':=λh=>by rw [h,Nat.beq_refl] at hcc; cases hcc
  have hent:entAt [(kv,toA v,c),(kv',toA v',c')] c = some (kv,toA v,c):=by simp [entAt]
  have hent':entAt [(kv,toA v,c),(kv',toA v',c')] c' = some (kv',toA v',c'):=by simp [entAt,hne]
  obtain ⟨lg1,T1,n1,HA1,y1,y2,y3,_,_,y6,y7,y8⟩:=rnd (seen:=[]) hrS hq2 hp2 h1 h2 hent x7; obtain ⟨lg2,T2,n2,HA,z1,z2,z3,_,_,z6,z7,z8⟩:=rnd (seen:=[c]) y2 y6 y7 h4 h5 hent' y1; obtain ⟨lg3,T3,n3,HB1,u1,u2,u3,_,_,u6,u7,u8⟩:=rnd (seen:=[]) hrS hq2 hp2 h4 h5 hent' z1; obtain ⟨lg4,T4,n4,HB,v1,v2,v3,_,_,v6,v7,v8⟩:=rnd (seen:=[c']) u2 u6 u7 h1 h2 hent u1; obtain ⟨heq,x8⟩:=bifX v1; obtain ⟨hnn,heq⟩:=eqHp_ok heq; have lA:=(hLS.step hqn y3).step hqn z3; have lB:=(hLS.step hqn u3).step hqn v3; rw [List.append_nil] at lA lB; have hlen:HA.length = HB.length:=by rw [<- show n2 = HA.length from z2.n,<- show n4 = HB.length from v2.n]; exact hnn
  have hle:n<=n2:=by have:=lA.len; rw [hn,show n2 = HA.length from z2.n]; exact this
  have hmem:∀ {b:Nat},b ∈ (nmsFrom n n2).ns ↔ n<=b/\b < n2:=ns_from hle z2.lt; have hsame:kill (nmsFrom n n2).ns HB = kill (nmsFrom n n2).ns HA:=by
   refine List.ext_getElem? λb=>?_
   rw [kill_get,kill_get,hlen]
   by_cases hm:b ∈ (nmsFrom n n2).ns/\b < HB.length
   ·rw [if_pos hm,if_pos hm]
   ·rw [if_neg hm,if_neg hm]
    by_cases hbl:b < H1.length
    ·by_cases hbn':b ∈ (appLg lg1 (appLg lg2 (appLg lg3 lg4))).ns
     ·obtain ⟨p',hp',hfb⟩:=heq b hbn' (by omega)
      have hbA:b < HA.length:=by have:=lA.len; omega
      have hbB:b < HB.length:=by omega
      obtain ⟨kA,hkA⟩:∃ k,HA[b]? = some k:=⟨_,gEe hbA⟩; obtain ⟨kB,hkB⟩:∃ k,HB[b]? = some k:=⟨_,gEe hbB⟩; have q1:=z2.at' b _ hkA; have q2:=v2.at' b _ hkB; subst hp'; rw [pth_num] at q1 q2; rw [hkA,hkB]; exact congrArg some (fbeq_ok hfb q1 q2).symm
     ·simp only [ns_app,List.mem_append,not_or] at hbn'
      rw [lB.fr b hbl (by simp only [List.mem_append,not_or]; exact ⟨hbn'.2.2.2,hbn'.2.2.1⟩),lA.fr b hbl (by simp only [List.mem_append,not_or]; exact ⟨hbn'.2.1,hbn'.1⟩)]
    ·have : n2 <= b := by
      rcases Nat.lt_or_ge b n2 with h | h
      ·exact absurd ⟨hmem.2 ⟨by omega,h⟩,by rw [<- hlen,<- show n2 = HA.length from z2.n]; exact h⟩ hm
      ·exact h
     rw [List.getElem?_eq_none (by rw [<- hlen,<- show n2 = HA.length from z2.n]; exact this),List.getElem?_eq_none (by rw [<- show n2 = HA.length from z2.n]; exact this)]
  have in2:∀ {e:Value × AV × Nat},e ∈ [(kv,toA v,c),(kv',toA v',c')]->e = (kv,toA v,c)\/e = (kv',toA v',c'):=λhe=>by simpa using he
  refine fin (lgs:=appLg lg2 lg1) z2 (by rw [ns_app]; exact lA) x8 λQ hQ=>enter Q (step_W hdS hSLx hq2 hp2 hborn (λe he hn=>?_) λhall=>absurd (hall _ List.mem_cons_self) List.not_mem_nil)
  rcases in2 he with rfl | rfl
  ·refine y8 _ _ λs0 H0 hk=>WR.weak hk (step_W hdS hSLx y6 y7 hborn (λe he hn=>?_) λhall=>?_)
   ·rcases in2 he with rfl | rfl
    ·exact absurd List.mem_cons_self hn
    ·exact z8 _ _ λs0 H0 hk=>WR.weak hk (leave Q 0 HA [c,c'] _ z6 z7 (λe he=>by rcases in2 he with rfl | rfl <;> simp) hQ)
   ·have:=hall (kv',toA v',c') (by simp)
    simp at this; exact absurd this.symm hne
  ·refine u8 _ _ λs0 H0 hk=>WR.weak hk (step_W hdS hSLx u6 u7 hborn (λe he hn=>?_) λhall=>?_)
   ·rcases in2 he with rfl | rfl
    ·exact v8 _ _ λs0 H0 hk=>WR.weak hk (leave Q 0 HB [c',c] (nmsFrom n n2).ns v6 v7 (λe he=>by rcases in2 he with rfl | rfl <;> simp) (by rw [hsame]; exact hQ))
    ·exact absurd List.mem_cons_self hn
   ·have:=hall (kv,toA v,c) (by simp)
    simp at this; exact absurd this hne
end
end
noncomputable section
theorem blt_le {a n m:Nat} (h:Nat.blt a n = true) (hm:n<=m):Nat.blt a m = true:=blt_iff.2 (Nat.lt_of_lt_of_le (blt_iff.1 h) hm)
theorem okI_mono {n m:Nat} {i:Ins} (h:okI n i = true) (hm:n<=m):okI m i = true:=by
 obtain ⟨h1,h2⟩:=Bool.and_eq_true_iff.1 h; refine Bool.and_eq_true_iff.2 ⟨List.all_eq_true.2 λt ht=>blt_le (List.all_eq_true.1 h1 t ht) hm,?_⟩
 cases hd:i.dst with
 | none=>rfl
 | some d=>rw [hd] at h2; exact blt_le h2 hm
theorem okA_le {n m:Nat} (hm:n<=m):∀ {c:AC},okA n c = true->okA m c = true
 | .skip,_=>rfl
 | .reg l,h=>List.all_eq_true.2 λi hi=>okI_mono (List.all_eq_true.1 (show l.all (okI n) = true from h) i hi) hm
 | .dreg pr l,h=>List.all_eq_true.2 λi hi=>okI_mono (List.all_eq_true.1 (show l.all (okI n) = true from h) i hi) hm
 | .seq a b,h=>by
  obtain ⟨h1,h2⟩:=Bool.and_eq_true_iff.1 (show (okA n a && okA n b) = true from h); exact Bool.and_eq_true_iff.2 ⟨okA_le hm h1,okA_le hm h2⟩
 | .cond x a b,h=>by
  obtain ⟨h1,h2⟩:=Bool.and_eq_true_iff.1 (show ((x.sl.all (λt=>Nat.blt t n) && okA n a) && okA n b) = true from h); obtain ⟨h3,h4⟩:=Bool.and_eq_true_iff.1 h1; exact Bool.and_eq_true_iff.2 ⟨Bool.and_eq_true_iff.2 ⟨List.all_eq_true.2 λt ht=>blt_le (List.all_eq_true.1 h3 t ht) hm,okA_le hm h4⟩,okA_le hm h2⟩
 | .block id c,h=>okA_le (c:=c) hm h
 | .loop c,h=>okA_le (c:=c) hm h
 | .exit id,_=>rfl
 | .ret,_=>rfl
 | .stuck,_=>rfl
def joinR (l:List AC) (c:AC):AC:=l.foldr .seq c
def RL.ok (n:Nat) (ks:List Nat) (r:RL):Bool:=
 r.l0.all (okI n) && r.l2.all (okI n) && okA n r.c2 && Nat.blt r.d n && Nat.blt r.b n && Nat.blt r.e n && Nat.blt r.x n && Nat.blt r.m n && r.x != r.d && r.x != r.b && ks.contains r.x && ks.all (λk=>Nat.blt k 512)
def rlOf:AC->Option RL
 | .seq (.reg l) (.block id (.loop (.seq (.reg [⟨some d,.nxt (.t _),none⟩,⟨some b,.ext (.t _) 0,none⟩]) (.seq (.cond _ .skip (.exit _)) (.block id2 (.seq (.reg (⟨some e,.ent (.t _),none⟩ :: l2)) c2))))))=>match l.getLast? with
  | some ⟨some x,.rng (.t m),none⟩=>some ⟨l.dropLast,x,m,d,b,e,id,id2,l2,c2⟩
  | _=>none
 | _=>none
def splitR:AC->Option (List AC × RL × AC)
 | .seq a b=>match rlOf a with
  | some r=>some ([],r,b)
  | none=>match splitR b with
   | some (l,r,c)=>some (a :: l,r,c)
   | none=>none
 | _=>none
section
variable (F:FC') (okf:Nat->Bool) (lp:Nat)
def fL (l:List FC):Fr->Hp->FX:=List.rec (motive:=λ_=>Fr->Hp->FX) (λs h=>.ok .nrm s h) (λc _ ih s h=>onX3 (λe s h=>FE.rec (motive:=λ_=>FX) (ih s h) .no (λ_=>.no) e) (fA F okf lp c s h)) l
def runR (pre:List FC) (l0:FIs) (x m d b e id2:Nat) (ks:List Nat) (l2:FIs) (c2 cr:FC) (rs:FRs) (args:List FV) (h:Hp):FR:=
 bif' (Nat.ble (lenL args 0) 512) (FX.rec (motive:=λ_=>FR) .no (λe s h=>FE.rec (motive:=λ_=>FR) (resF rs s h λl=>.ok (resV l) h) (resF rs s h λl=>.ok (resV l) h) (λ_=>.no) e)
  (onX3 (λe1 s h=>FE.rec (motive:=λ_=>FX) (onX3 (λe2 s h=>FE.rec (motive:=λ_=>FX) (fA F okf lp cr s h) .no (λ_=>.no) e2) (rlF F okf lp l0 x m d b e id2 ks l2 c2 s h)) .no (λ_=>.no) e1) (fL F okf lp pre (mkT args) h))) .no
end
section
variable {P:Program} {F:FC'} {okf:Nat->Bool} {hint:Nat->Option Md} {nb:Nat}
theorem fL_ok (hF:FOk P F) (hok:∀ f,okf f = true->callOk P f = true) (hD:RegOk P hint nb F okf) {lp n:Nat}:∀ {l:List AC} {t:Fr} {S:List AV} {h:Hp} {H:List ABlk} {e:FE} {t':Fr} {h':Hp},
 l.all (okA n) = true->n<=S.length->FrR t S->HpR h H->fL F okf lp (l.map fc) t h = .ok e t' h' ->
  e = .nrm/\∃ pre S' H',HpR h' H'/\Fra pre h h' H H'/\FrR t' S'/\S'.length = S.length/\∀ (c:AC) (Q:APost),W P hint nb c S' H' Q->W P hint nb (joinR l c) S H Q
 | [],t,S,h,H,e,t',h',_,_,hf,hr,hx=>by
  cases (show FX.ok .nrm t h = .ok e t' h' from hx)
  exact ⟨rfl,[],S,H,hr,.refl h H,hf,rfl,λc Q hw=>hw⟩
 | a :: l,t,S,h,H,e,t',h',ho,hn,hf,hr,hx=>by
  obtain ⟨o1,o2⟩:=Bool.and_eq_true_iff.1 (show (okA n a && l.all (okA n)) = true from ho); obtain ⟨e1,s1,h1,x1,x2⟩:=onX3_ok (show onX3 (λe s h=>FE.rec (motive:=λ_=>FX) (fL F okf lp (l.map fc) s h) .no (λ_=>.no) e) (fA F okf lp (fc a) t h) = .ok e t' h' from hx); obtain ⟨pre,S1,H1,a1,b1,c1,d1,w1⟩:=fA_ok hF hok hD o1 hn hf hr x1
  cases e1 with
  | ret=>cases x2
  | ext id=>cases x2
  | nrm =>
   obtain ⟨he,pre2,S2,H2,a2,b2,c2,d2,w2⟩:=fL_ok hF hok hD o2 (by rw [d1]; exact hn) c1 a1 (show fL F okf lp (l.map fc) s1 h1 = .ok e t' h' from x2); exact ⟨he,pre2 ++ pre,S2,H2,a2,b1.trans b2,c2,d2.trans d1,λc Q hw=>W.seq (w1 (APost.then (λs' H'=>W P hint nb (joinR l c) s' H' Q) Q) (w2 c Q hw))⟩
theorem runR_ok {lp:Nat} (hF:FOk P F) (hok:∀ f,okf f = true->callOk P f = true) (hD:∀ nb,RegOk P hint nb F okf) {f:FuncId} {fn:Func} {pre:List AC} {r:RL} {rest:AC} {rs:List RC} {ks:List Nat}
 (hf:P.funcs[f]? = some fn) (hc:fn.body.bind (comp P hint) = some (joinR pre (.seq r.ac rest))) (hrs:resC P fn = some rs) (hpre:pre.all (okA fn.ntmps) = true) (hrl:r.ok fn.ntmps ks = true) (hrest:okA fn.ntmps rest = true) (hro:rs.all (okR fn.ntmps) = true) (hn:fn.ntmps<=512)
 {args:List FV} {h:Hp} {H:List ABlk} {v:FV} {h':Hp} (hh:HpR h H) (e:runR F okf lp (pre.map fc) (fis r.l0) r.x r.m r.d r.b r.e r.id2 ks (fis r.l2) (fc r.c2) (fc rest) (frc rs) args h = .ok v h') :
 ∃ pre H',HpR h' H'/\Fra pre h h' H H'/\ACalls P f (toAs args) H λv' H''=>v' = toA v/\H'' = H':=by
 obtain ⟨ha,e⟩:=bif_ok e; have ha:args.length<=512:=by
  have:=Nat.le_of_ble_eq_true ha; rw [lenL_eq] at this; omega
 have hlen:fn.ntmps<=(toAs args ++ List.replicate (fn.ntmps - args.length) AV.any).length:=by
  rw [List.length_append,List.length_replicate,toAs_length]; omega
 cases hx:onX3 (λe1 s h=>FE.rec (motive:=λ_=>FX) (onX3 (λe2 s h=>FE.rec (motive:=λ_=>FX) (fA F okf lp (fc rest) s h) .no (λ_=>.no) e2) (rlF F okf lp (fis r.l0) r.x r.m r.d r.b r.e r.id2 ks (fis r.l2) (fc r.c2) s h)) .no (λ_=>.no) e1) (fL F okf lp (pre.map fc) (mkT args) h) with
 | no=>rw [hx] at e; cases e
 | ok ex t3 h3 =>
  rw [hx] at e; obtain ⟨e1,t1,h1,x1,x2⟩:=onX3_ok hx; obtain ⟨rfl,pre1,S1,H1,a1,b1,c1,d1,w1⟩:=fL_ok (P:=P) (hint:=hint) (nb:=H.length) hF hok (hD _) hpre hlen (mkT_ok (k:=fn.ntmps) ha hn) hh x1; obtain ⟨e2,t2,h2,x3,x4⟩:=onX3_ok (show onX3 (λe2 s h=>FE.rec (motive:=λ_=>FX) (fA F okf lp (fc rest) s h) .no (λ_=>.no) e2) (rlF F okf lp (fis r.l0) r.x r.m r.d r.b r.e r.id2 ks (fis r.l2) (fc r.c2) t1 h1) = .ok ex t3 h3 from x2); have hl1:fn.ntmps<=S1.length:=by rw [d1]; exact hlen
  unfold RL.ok at hrl
  simp only [Bool.and_eq_true] at hrl; obtain ⟨⟨⟨⟨⟨⟨⟨⟨⟨⟨⟨k0,k2⟩,kc⟩,kd⟩,kb⟩,ke⟩,kx⟩,km⟩,kxd⟩,kxb⟩,kxk⟩,kk⟩:=hrl; have up:∀ {a:Nat},Nat.blt a fn.ntmps = true->a < S1.length:=λh=>Nat.lt_of_lt_of_le (blt_iff.1 h) hl1
  obtain ⟨pre2,S2,H2,a2,b2,c2,d2,w2⟩:=rl_ok (P:=P) (hint:=hint) (nb:=H.length) hF hok (hD _) (okI_le k0 hl1) (okI_le k2 hl1) (okA_le hl1 kc) (up kd) (up kb) (up ke) (up kx) (up km) (by simpa using kxd) (by simpa using kxb) (by simpa using kxk)
   (λn hn=>blt_iff.1 (List.all_eq_true.1 kk n hn)) c1 a1 x3
  cases e2 with
  | ret=>cases x4
  | ext id=>cases x4
  | nrm =>
   have hl2:fn.ntmps<=S2.length:=by rw [d2]; exact hl1
   obtain ⟨pre3,S3,H3,a3,b3,c3,d3,w3⟩:=fA_ok (P:=P) (hint:=hint) (nb:=H.length) hF hok (hD _) hrest hl2 c2 a2 (show fA F okf lp (fc rest) t2 h2 = .ok ex t3 h3 from x4); have hR:rs.all (okR S3.length) = true:=by
    refine List.all_eq_true.2 λr hr=>?_
    have:=List.all_eq_true.1 hro r hr; have hle:fn.ntmps<=S3.length:=by rw [d3]; exact hl2
    cases r with
    | t m=>exact blt_iff.2 (Nat.lt_of_lt_of_le (blt_iff.1 this) hle)
    | c m k g =>
     obtain ⟨q1,q2⟩:=Bool.and_eq_true_iff.1 (show (Nat.blt m fn.ntmps && (g || k == 1)) = true from this); exact Bool.and_eq_true_iff.2 ⟨blt_iff.2 (Nat.lt_of_lt_of_le (blt_iff.1 q1) hle),q2⟩
   have fin:(resF (frc rs) t3 h3 λl=>FR.ok (resV l) h3) = .ok v h'->h' = h3/\resA rs S3 H3 = some (toA v):=λer=>by
    obtain ⟨l,l1,l2,l3⟩:=resF_ok c3 a3 hR er
    cases l3
    exact ⟨rfl,resV_ok l1 l2⟩
   have go:∀ ex':FE,(toE ex' = .normal\/toE ex' = .ret)->ex = ex'->(resF (frc rs) t3 h3 λl=>FR.ok (resV l) h3) = .ok v h' ->
    ∃ pre H',HpR h' H'/\Fra pre h h' H H'/\ACalls P f (toAs args) H λv' H''=>v' = toA v/\H'' = H':=by
    rintro ex' hex rfl er; obtain ⟨rfl,q⟩:=fin er; refine ⟨pre3 ++ (pre2 ++ pre1),H3,a3,(b1.trans b2).trans b3,ACalls.enter hf hc hrs λ_=>?_⟩; rw [toAs_length]; refine w1 _ _ (W.seq (w2 _ (w3 _ ?_))); rcases hex with hex | hex <;> rw [hex] <;> exact ⟨toA v,q,toA v,H3,Wk.refl,rfl,rfl⟩
   cases ex with
   | ext id=>cases e
   | nrm=>exact go .nrm (.inl rfl) rfl e
   | ret=>exact go .ret (.inr rfl) rfl e
end
end
noncomputable section
def cG (x:FO):Clo (Fr->FV):=FO.rec (motive:=λ_=>Clo (Fr->FV)) (λv=>⟨λ_=>v⟩) (λn=>slg n) x
def cGs (x:FOs):Clo (Fr->List FV):=FOs.rec (motive:=λ_=>Clo (Fr->List FV)) ⟨λ_=>[]⟩ (λx _ ih=>ap (λg=>ap (λr=>⟨λs=>g s :: r s⟩) ih) (cG x)) x
abbrev TK:=Clo (FC'->(Nat->Bool)->Fr->Hp->FR)
abbrev TX:=Clo (FC'->(Nat->Bool)->Fr->Hp->FX)
def cK (k:FK):TK:=FK.rec (motive:=λ_=>TK)
 ⟨λF okf s h=>.no⟩
 (λx=>ap (λgx=>⟨λF okf s h=>k_s2b (gx s) h⟩) (cG x))
 (λx c=>ap (λgx=>ap (λgc=>⟨λF okf s h=>k_ixb (gx s) (gc s) h⟩) (cG c)) (cG x))
 (λkt z m k=>ap (λgm=>ap (λgk=>⟨λF okf s h=>k_me kt z (gm s) (gk s) h⟩) (cG k)) (cG m))
 (λm st v=>ap (λgm=>ap (λgst=>ap (λgv=>⟨λF okf s h=>k_mes (gm s) (gst s) (gv s) h⟩) (cG v)) (cG st)) (cG m))
 (λx=>ap (λgx=>⟨λF okf s h=>k_rng (gx s) h⟩) (cG x))
 (λx=>ap (λgx=>⟨λF okf s h=>k_ent (gx s) h⟩) (cG x))
 (λx=>ap (λgx=>⟨λF okf s h=>k_nx (gx s) h⟩) (cG x))
 (λsz by' z n c=>ap (λgn=>ap (λgc=>⟨λF okf s h=>k_mks sz by' z (gn s) (gc s) h⟩) (cG c)) (cG n))
 (λsz d x=>ap (λgd=>ap (λgx=>⟨λF okf s h=>k_cpy sz (gd s) (gx s) h⟩) (cG x)) (cG d))
 (λkt=>⟨λF okf s h=>k_mkm kt h⟩)
 (λkt z ok m k=>ap (λgm=>ap (λgk=>⟨λF okf s h=>k_lk kt z ok (gm s) (gk s) h⟩) (cG k)) (cG m))
 (λkt m k v=>ap (λgm=>ap (λgk=>ap (λgv=>⟨λF okf s h=>k_mu kt (gm s) (gk s) (gv s) h⟩) (cG v)) (cG k)) (cG m))
 (λmp neg x=>ap (λgx=>⟨λF okf s h=>k_isn mp neg (gx s) h⟩) (cG x))
 (λneg x=>ap (λgx=>⟨λF okf s h=>k_eqi neg (gx s) h⟩) (cG x))
 (λkt neg x y=>ap (λgx=>ap (λgy=>⟨λF okf s h=>k_eqg kt neg (gx s) (gy s) h⟩) (cG y)) (cG x))
 (λx=>ap (λgx=>⟨λF okf s h=>k_b2s (gx s) h⟩) (cG x))
 (λt x=>ap (λgx=>⟨λF okf s h=>.ok (.ifc t (gx s)) h⟩) (cG x))
 (λt z ok x=>ap (λgx=>⟨λF okf s h=>k_tas t z ok (gx s) h⟩) (cG x))
 (λtb x args=>ap (λgx=>ap (λgargs=>⟨λF okf s h=>k_inv F tb (gx s) (gargs s) h⟩) (cGs args)) (cG x))
 (λf caps=>ap (λgcaps=>⟨λF okf s h=>.ok (.fn f (gcaps s)) h⟩) (cGs caps))
 (λf caps=>ap (λgcaps=>⟨λF okf s h=>.ok (.fnb f (gcaps s)) h⟩) (cGs caps))
 (λx=>ap (λgx=>⟨λF okf s h=>k_mlen (gx s) h⟩) (cG x))
 (λxs=>⟨λF okf s h=>k_mm ilt xs s h⟩)
 (λxs=>⟨λF okf s h=>k_mm (λa b=>ilt b a) xs s h⟩)
 (λsz by' a x=>ap (λga=>ap (λgx=>⟨λF okf s h=>k_app sz by' (ga s) (gx s) h⟩) (cG x)) (cG a))
 (λlo hi x=>ap (λgx=>⟨λF okf s h=>k_sls lo hi (gx s) s h⟩) (cG x))
 (λsz lo hi x=>ap (λgx=>⟨λF okf s h=>k_slh sz lo hi (gx s) s h⟩) (cG x))
 (λn sz lo hi x=>ap (λgx=>⟨λF okf s h=>k_sla n sz lo hi (gx s) s h⟩) (cG x))
 (λn sz ps=>⟨λF okf s h=>k_bs n sz ps s h⟩)
 (λz ps=>⟨λF okf s h=>k_bd z ps s h⟩)
 (λneg x y=>ap (λgx=>ap (λgy=>⟨λF okf s h=>k_eqs neg (gx s) (gy s) h⟩) (cG y)) (cG x))
 (λneg x y=>ap (λgx=>ap (λgy=>⟨λF okf s h=>k_eqp neg (gx s) (gy s) h⟩) (cG y)) (cG x))
 (λg args=>ap (λgg=>ap (λgargs=>⟨λF okf s h=>k_callv F okf (gg s) (gargs s) h⟩) (cGs args)) (cG g))
 (λoff n x=>ap (λgx=>⟨λF okf s h=>k_fldn off n (gx s) h⟩) (cG x))
 (λoff x=>ap (λgx=>⟨λF okf s h=>k_fld off (gx s) h⟩) (cG x))
 (λn x i=>ap (λgx=>ap (λgi=>⟨λF okf s h=>k_ixv n (gx s) (gi s) h⟩) (cG i)) (cG x))
 (λn sz x i=>ap (λgx=>ap (λgi=>⟨λF okf s h=>k_iar n sz (gx s) (gi s) h⟩) (cG i)) (cG x))
 (λsz x i=>ap (λgx=>ap (λgi=>⟨λF okf s h=>k_ia sz (gx s) (gi s) h⟩) (cG i)) (cG x))
 (λx i=>ap (λgx=>ap (λgi=>⟨λF okf s h=>k_ix (gx s) (gi s) h⟩) (cG i)) (cG x))
 (λx=>ap (λgx=>⟨λF okf s h=>k_lens (gx s) h⟩) (cG x))
 (λx=>ap (λgx=>⟨λF okf s h=>k_lenh (gx s) h⟩) (cG x))
 (λi x=>ap (λgx=>⟨λF okf s h=>k_ext i (gx s) h⟩) (cG x))
 (λx=>ap (λgx=>⟨λF okf s h=>k_bx (gx s) h⟩) (cG x))
 (λn z=>⟨λF okf s h=>k_al n z h⟩)
 (λop x=>ap (λgx=>⟨λF okf s h=>unK op (gx s) h⟩) (cG x))
 (λk x=>ap (λgx=>⟨λF okf s h=>k_cvi k (gx s) h⟩) (cG x))
 (λx=>ap (λgx=>⟨λF okf s h=>k_nc (gx s) h⟩) (cG x))
 (λn x v=>ap (λgx=>ap (λgv=>⟨λF okf s h=>k_stn n (gx s) (gv s) h⟩) (cG v)) (cG x))
 (λx v=>ap (λgx=>ap (λgv=>⟨λF okf s h=>k_st (gx s) (gv s) h⟩) (cG v)) (cG x))
 (λn x=>ap (λgx=>⟨λF okf s h=>k_ldn n (gx s) h⟩) (cG x))
 (λx=>ap (λgx=>⟨λF okf s h=>k_ld (gx s) h⟩) (cG x))
 (λf args=>ap (λgargs=>⟨λF okf s h=>F f (gargs s) h⟩) (cGs args))
 (λc a b=>ap (λgc=>ap (λga=>ap (λgb=>⟨λF okf s h=>k_pick (gc s) (ga s) (gb s) h⟩) (cG b)) (cG a)) (cG c))
 (λoff x=>ap (λgx=>⟨λF okf s h=>k_fa off (gx s) h⟩) (cG x))
 (λop x y=>ap (λgx=>ap (λgy=>⟨λF okf s h=>binK op (gx s) (gy s) h⟩) (cG y)) (cG x))
 (λx=>ap (λgx=>⟨λF okf s h=>.ok (gx s) h⟩) (cG x)) k
theorem cG_eq (x:FO):cG x = ⟨gO x⟩:=by
 cases x with
 | c v=>rfl
 | t n =>
  show slg n = ⟨λs=>ap (λf=>f s) (slg n)⟩
  cases slg n; rfl
theorem cGs_eq (x:FOs):cGs x = ⟨gOs x⟩:=by
 induction x with
 | nil=>rfl
 | cons x r ih =>
  show ap (λg=>ap (λr=>(⟨λs=>g s :: r s⟩:Clo (Fr->List FV))) (cGs r)) (cG x) = _
  rw [ih,cG_eq]; rfl
theorem cK_eq (k:FK):cK k = ⟨λF okf=>evFK F okf k⟩:=by
 cases k <;> first
  | rfl
  | (simp only [cK,cG_eq,cGs_eq]; rfl)
theorem sls_eta (n:Nat):sls n = ⟨λv s=>ap (λf=>f v s) (sls n)⟩:=by cases sls n; rfl
theorem slg_eta (n:Nat):slg n = ⟨λs=>ap (λf=>f s) (slg n)⟩:=by cases slg n; rfl
def cGd (g:FG):Clo (Fr->FX->FX->FX):=FG.rec (motive:=λ_=>Clo (Fr->FX->FX->FX)) ⟨λs y n=>y⟩
 (λi t=>ap (λf=>⟨λs y n=>FV.rec (motive_1:=λ_=>FX) (motive_2:=λ_=>Unit) .no .no .no .no .no .no .no (λ_=>.no) (λ_=>.no) (λ_ _ _=>.no) (λ_ _ _=>.no) (λ_ _ _=>.no) (λcs _=>lcs n (λ_ _=>.no) cs) (λ_ _=>.no) (λ_ _ _ _ _=>.no) (λ_ _=>.no) (λu=>bif' u (bif' t y n) (bif' t n y)) (λ_ _=>.no) (λ_ _=>.no) () (λ_ _ _ _=>()) (f s)⟩) (slg i)) g
theorem cGd_eq (g:FG):cGd g = ⟨guard g⟩:=by
 cases g with
 | no=>rfl
 | ok i t =>
  show ap (λf=>(⟨λs y n=>FV.rec (motive_1:=λ_=>FX) (motive_2:=λ_=>Unit) .no .no .no .no .no .no .no (λ_=>.no) (λ_=>.no) (λ_ _ _=>.no) (λ_ _ _=>.no) (λ_ _ _=>.no) (λcs _=>lcs n (λ_ _=>.no) cs) (λ_ _=>.no) (λ_ _ _ _ _=>.no) (λ_ _=>.no) (λu=>bif' u (bif' t y n) (bif' t n y)) (λ_ _=>.no) (λ_ _=>.no) () (λ_ _ _ _=>()) (f s)⟩:Clo (Fr->FX->FX->FX))) (slg i) = _
  rw [slg_eta]; rfl
def cD (d:FD):Clo (FV->Fr->Fr):=FD.rec (motive:=λ_=>Clo (FV->Fr->Fr)) ⟨λ_ s=>s⟩ (λn=>sls n) d
theorem cD_eq (d:FD):cD d = ⟨putD d⟩:=by
 cases d with
 | no=>rfl
 | ok n =>
  show sls n = ⟨λv s=>ap (λf=>f v s) (sls n)⟩
  cases sls n; rfl
def cIs (l:FIs):TX:=
 FIs.rec (motive:=λ_=>TX) ⟨λ_ _ s h=>.ok .nrm s h⟩
  (λd g k _ ih=>ap (λn=>ap (λc=>ap (λp=>ap (λw=>⟨λF okf s h=>w s (FR.rec (motive:=λ_=>FX) .no (λv h=>n F okf (p v s) h) (c F okf s h)) (n F okf (p (.tup []) s) h)⟩) (cGd g)) (cD d)) (cK k)) ih)
  (λk _ ih=>ap (λn=>ap (λc=>⟨λF okf s h=>FR.rec (motive:=λ_=>FX) .no (λ_ h=>n F okf s h) (c F okf s h)⟩) (cK k)) ih)
  (λd k _ ih=>ap (λn=>ap (λc=>ap (λp=>⟨λF okf s h=>FR.rec (motive:=λ_=>FX) .no (λv h=>n F okf (p v s) h) (c F okf s h)⟩) (sls d)) (cK k)) ih)
  (λd v _ ih=>ap (λn=>ap (λp=>⟨λF okf s h=>n F okf (p v s) h⟩) (sls d)) ih)
  (λd m _ ih=>ap (λn=>ap (λp=>ap (λg=>⟨λF okf s h=>n F okf (p (g s) s) h⟩) (slg m)) (sls d)) ih) l
theorem cIs_eq (l:FIs):cIs l = ⟨λF okf=>fIs F okf l⟩:=by
 induction l with
 | nil=>rfl
 | g d g k r ih =>
  show ap (λn=>ap (λc=>ap (λp=>ap (λw=>(⟨λF okf s h=>w s (FR.rec (motive:=λ_=>FX) .no (λv h=>n F okf (p v s) h) (c F okf s h)) (n F okf (p (.tup []) s) h)⟩:TX)) (cGd g)) (cD d)) (cK k)) (cIs r) = _
  rw [ih,cK_eq,cD_eq,cGd_eq]; rfl
 | n k r ih =>
  show ap (λn=>ap (λc=>(⟨λF okf s h=>FR.rec (motive:=λ_=>FX) .no (λ_ h=>n F okf s h) (c F okf s h)⟩:TX)) (cK k)) (cIs r) = _
  rw [ih,cK_eq]; rfl
 | c d k r ih =>
  show ap (λn=>ap (λc=>ap (λp=>(⟨λF okf s h=>FR.rec (motive:=λ_=>FX) .no (λv h=>n F okf (p v s) h) (c F okf s h)⟩:TX)) (sls d)) (cK k)) (cIs r) = _
  rw [ih,cK_eq,sls_eta]; rfl
 | mc d v r ih =>
  show ap (λn=>ap (λp=>(⟨λF okf s h=>n F okf (p v s) h⟩:TX)) (sls d)) (cIs r) = _
  rw [ih,sls_eta]; rfl
 | mt d m r ih =>
  show ap (λn=>ap (λp=>ap (λg=>(⟨λF okf s h=>n F okf (p (g s) s) h⟩:TX)) (slg m)) (sls d)) (cIs r) = _
  rw [ih,sls_eta,slg_eta]; rfl
def cJs (l:FJs):Clo (FC'->(Nat->Bool)->Rc->Lg->Fr->Hp->FX):=
 FJs.rec (motive:=λ_=>Clo (FC'->(Nat->Bool)->Rc->Lg->Fr->Hp->FX)) ⟨λ_ _ _ lg s h=>onHp h λt n _=>.ok .nrm s (.mk t n lg)⟩
  (fun d g k q _ ih => ap (fun N => ap (fun K => ap (fun p => ap (fun w =>
    FQ.rec (motive:=λ_=>Clo (FC'->(Nat->Bool)->Rc->Lg->Fr->Hp->FX))
     (fun c rd l => ⟨fun F okf rs lg s h => w s (onHp h fun _ n _ => onR (fun v h' => onHp h' fun t m sg => bif' (ltL n (rdOfF rd s)) (bif' (clsB c sg n m) (bif' (chkS rs (rdOfF rd s) sg l) (N F okf (.cons (rdOfF rd s) sg n m rs) (appLg sg lg) (p v s) (.mk t m .nil)) .no) .no) .no) (K F okf s h))
       (N F okf (onHp h λ_ n _=>.cons .nil .nil n n rs) lg (p (.tup []) s) h)⟩)
     (fun l => ⟨fun F okf rs lg s h => w s (onHp h fun _ n _ => onR (fun v h' => onHp (restL (wrsOf rs l) h h') fun t m sg => bif' (chkC rs sg l) (N F okf (.cons .nil sg n m rs) (appLg sg lg) (p v s) (.mk t m .nil)) .no) (K F okf s (killL (wrsOf rs l) h)))
       (N F okf (onHp h λ_ n _=>.cons .nil .nil n n rs) lg (p (.tup []) s) h)⟩) q)
    (cGd g)) (cD d)) (cK k)) ih) l
theorem cJs_eq (l:FJs):cJs l = ⟨λF okf=>fJs F okf l⟩:=by
 induction l with
 | nil=>rfl
 | cons d g k q r ih =>
  show ap (λN=>ap (λK=>ap (λp=>ap (λw =>
   FQ.rec (motive:=λ_=>Clo (FC'->(Nat->Bool)->Rc->Lg->Fr->Hp->FX))
    (fun c rd l => ⟨fun F okf rs lg s h => w s (onHp h fun _ n _ => onR (fun v h' => onHp h' fun t m sg => bif' (ltL n (rdOfF rd s)) (bif' (clsB c sg n m) (bif' (chkS rs (rdOfF rd s) sg l) (N F okf (.cons (rdOfF rd s) sg n m rs) (appLg sg lg) (p v s) (.mk t m .nil)) .no) .no) .no) (K F okf s h))
      (N F okf (onHp h λ_ n _=>.cons .nil .nil n n rs) lg (p (.tup []) s) h)⟩)
    (fun l => ⟨fun F okf rs lg s h => w s (onHp h fun _ n _ => onR (fun v h' => onHp (restL (wrsOf rs l) h h') fun t m sg => bif' (chkC rs sg l) (N F okf (.cons .nil sg n m rs) (appLg sg lg) (p v s) (.mk t m .nil)) .no) (K F okf s (killL (wrsOf rs l) h)))
      (N F okf (onHp h λ_ n _=>.cons .nil .nil n n rs) lg (p (.tup []) s) h)⟩) q)
   (cGd g)) (cD d)) (cK k)) (cJs r) = _
  rw [ih,cK_eq,cD_eq,cGd_eq]
  cases q <;> rfl
def gAc (n:Nat) (c:FC):TX:=
 FC.rec (motive:=λ_=>TX) ⟨λ_ _ s h=>.ok .nrm s h⟩ ⟨λ_ _ _ _=>.no⟩ cIs (λl=>⟨λF okf=>fSs F okf l⟩) (λkt d1 d2 d3 d4 m k l=>⟨λF okf=>fMpp F okf kt d1 d2 d3 d4 m k l⟩)
  (λl=>ap (λf=>⟨λF okf s h=>onHp h λ_ _ lg=>f F okf .nil lg s (noLg h)⟩) (cJs l))
  (λ_ _ a b=>ap (λa=>ap (λb=>⟨λF okf s h=>FX.rec (motive:=λ_=>FX) .no (λe s h=>FE.rec (motive:=λ_=>FX) (b F okf s h) (.ok .ret s h) (λid=>.ok (.ext id) s h) e) (a F okf s h)⟩) b) a)
  (λx _ _ a b=>ap (λa=>ap (λb=>ap (λg=>⟨λF okf s h=>onBX (λt=>bif' t (a F okf s h) (b F okf s h)) (g s)⟩) (cG x)) b) a)
  (λid _ c=>ap (λc=>⟨λF okf s h=>FX.rec (motive:=λ_=>FX) .no (λe s h=>FE.rec (motive:=λ_=>FX) (.ok .nrm s h) (.ok .ret s h) (λid'=>bif' (Nat.beq id' id) (.ok .nrm s h) (.ok (.ext id') s h)) e) (c F okf s h)⟩) c)
  (λ_ c=>ap (λc=>⟨λF okf=>fLoop (c F okf) n⟩) c)
  (λid=>⟨λ_ _ s h=>.ok (.ext id) s h⟩) ⟨λ_ _ s h=>.ok .ret s h⟩ c
theorem gAc_eq (n:Nat) (c:FC):gAc n c = ⟨λF okf=>fA F okf n c⟩:=by
 induction c with
 | reg l=>exact cIs_eq l
 | dreg l =>
  show ap (λf=>(⟨λF okf s h=>onHp h λ_ _ lg=>f F okf .nil lg s (noLg h)⟩:TX)) (cJs l) = _
  rw [cJs_eq]; rfl
 | seq a b ia ib =>
  show ap (λa=>ap (λb=>(⟨λF okf s h=>FX.rec (motive:=λ_=>FX) .no (λe s h=>FE.rec (motive:=λ_=>FX) (b F okf s h) (.ok .ret s h) (λid=>.ok (.ext id) s h) e) (a F okf s h)⟩:TX)) (gAc n b)) (gAc n a) = _
  rw [ia,ib]; rfl
 | cond x a b ia ib =>
  show ap (λa=>ap (λb=>ap (λg=>(⟨λF okf s h=>onBX (λt=>bif' t (a F okf s h) (b F okf s h)) (g s)⟩:TX)) (cG x)) (gAc n b)) (gAc n a) = _
  rw [ia,ib,cG_eq]; rfl
 | block id c ih =>
  show ap (λc=>(⟨λF okf s h=>FX.rec (motive:=λ_=>FX) .no (λe s h=>FE.rec (motive:=λ_=>FX) (.ok .nrm s h) (.ok .ret s h) (λid'=>bif' (Nat.beq id' id) (.ok .nrm s h) (.ok (.ext id') s h)) e) (c F okf s h)⟩:TX)) (gAc n c) = _
  rw [ih]; rfl
 | loop c ih =>
  show ap (λc=>(⟨λF okf=>fLoop (c F okf) n⟩:TX)) (gAc n c) = _
  rw [ih]; rfl
 | _=>rfl
def evFG (X:FC'->FC') (E:Nat->FF) (okf:Nat->Bool) (lp n:Nat):FC':=
 Nat.rec (motive:=λ_=>FC') (λ_ _ _=>.no)
  (fun _ ih f args h => X (fun f args h => FF.rec (motive := fun _ => FR) .no
    (λc rs=>bif' (Nat.ble (lenL args 0) 512) (FX.rec (motive:=λ_=>FR) .no (λe s h=>FE.rec (motive:=λ_=>FR) (resF rs s h λl=>.ok (resV l) h) (resF rs s h λl=>.ok (resV l) h) (λ_=>.no) e) (ap (λf=>f ih okf (mkT args) h) (gAc lp c))) .no) (E f)) f args h) n
theorem evFG_eq (X:FC'->FC') (E:Nat->FF) (okf:Nat->Bool) (lp n:Nat):evFG X E okf lp n = evFF X E okf lp n:=by
 induction n with
 | zero=>rfl
 | succ n ih =>
  have e:(λf args h=>FF.rec (motive:=λ_=>FR) .no
   (fun c rs => bif' (Nat.ble (lenL args 0) 512) (FX.rec (motive := fun _ => FR) .no (fun e s h => FE.rec (motive := fun _ => FR) (resF rs s h fun l => .ok (resV l) h) (resF rs s h fun l => .ok (resV l) h) (fun _ => .no) e) (ap (fun f => f (evFG X E okf lp n) okf (mkT args) h) (gAc lp c))) .no) (E f) : FC')
     = λf args h=>FF.rec (motive:=λ_=>FR) .no
   (λc rs=>bif' (Nat.ble (lenL args 0) 512) (FX.rec (motive:=λ_=>FR) .no (λe s h=>FE.rec (motive:=λ_=>FR) (resF rs s h λl=>.ok (resV l) h) (resF rs s h λl=>.ok (resV l) h) (λ_=>.no) e) (fA (evFF X E okf lp n) okf lp c (mkT args) h)) .no) (E f):=by
   funext f args h
   cases E f with
   | no=>rfl
   | ok c rs =>
    have q:ap (λf=>f (evFG X E okf lp n) okf (mkT args) h) (gAc lp c) = fA (evFF X E okf lp n) okf lp c (mkT args) h:=by rw [gAc_eq,ih]; rfl
    show bif' _ (FX.rec (motive:=λ_=>FR) .no _ (ap (λf=>f (evFG X E okf lp n) okf (mkT args) h) (gAc lp c))) .no = _
    rw [q]
  exact congrArg (λY:FC'=>(λf args h=>X Y f args h:FC')) e
end
end Go.Proofs.YtofpekbidngnfaaGreatDoor
