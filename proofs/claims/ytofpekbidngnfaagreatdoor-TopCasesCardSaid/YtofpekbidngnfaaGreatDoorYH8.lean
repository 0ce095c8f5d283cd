/- What is known of the machine's state stays right through a step. -/
import Derived.Test.YtofpekbidngnfaaGreatDoorYH4
set_option linter.constructorNameAsVariable false
set_option linter.unusedSectionVars false
set_option linter.unusedSimpArgs false
set_option linter.unusedVariables false
set_option maxHeartbeats 1000000
set_option maxRecDepth 20000
namespace Go.Proofs.YtofpekbidngnfaaGreatDoor
open Go.RowKit
noncomputable section
def KM (x:MV) (n:Int):Prop:=match x with
 | .u=>True
 | .b=>0<=n/\n < 256
 | .k m=>n = m
structure Rel (mg:List Nat) (inp:ByteArray) (out0:List Int) (rd0:Int) (q:Q) (s:St):Prop where
 ql:q.regs.length = 16
 r16:s.regs.length = 16
 ru:∀ x ∈ s.regs,U32 x
 hu:U32 s.h
 wl:s.ws.length = 65536
 wu:∀ x ∈ s.ws,U32 x
 regs:∀ i,K32 (lnth .any q.regs i) (s.regs.getD i 0)
 h:K32 q.h s.h
 fn:KB q.n s.fl.n
 fz:KB q.z s.fl.z
 fc:KB q.c s.fl.c
 fv:KB q.v s.fl.v
 pc:s.pc = q.pc
 mem:∀ a,KM (rdQ mg q.mem a) (s.ws.getD a 0)
 ip:s.inp = inp
 out:s.out = out0 ++ q.out.map Int.ofNat
 rd:s.rd = rd0 + q.rd
 en:s.en = q.en
 tr:s.tr = q.tr
 nx:q.nx < 256->(0<=s.rd/\s.rd < inp.size)/\(inp.data.toList.getD s.rd.toNat 0).toNat = q.nx
 nxe:q.nx = 256->¬ s.rd < inp.size
theorem nR {q:Q}:QR.no ≠ .ok q:=λh=>by cases h
theorem qbif {t:Bool} {a:QR} {q:Q} (e:bif' t a .no = .ok q):t = true/\a = .ok q:=gbif_ok nR e
theorem frq_ok {x:FV} {k:FV->QR} {q:Q} (e:frq x k = .ok q):∃ y,k y = .ok q/\∀ n,K32 x n->K32 y n:=by
 cases x with
 | i kk n =>
  cases n with
  | ofNat m =>
   have e:fN m (λm=>k (.i .u32 (.ofNat m))) = .ok q:=e; rw [fN_eq] at e; refine ⟨_,e,λn h=>?_⟩; rcases h with h | h
   ·cases h
   ·cases h; exact .inr rfl
  | negSucc m=>exact ⟨.any,e,λ_ _=>.inl rfl⟩
 | _=>exact ⟨.any,e,λ_ _=>.inl rfl⟩
theorem frqB_ok {x:FV} {k:FV->QR} {q:Q} (e:frqB x k = .ok q):∃ y,k y = .ok q/\∀ n,KB x n->KB y n:=by
 cases x with
 | b t =>
  cases t with
  | false=>exact ⟨.b false,e,λ_ h=>h⟩
  | true=>exact ⟨.b true,e,λ_ h=>h⟩
 | _=>exact ⟨.any,e,λ_ _=>.inl rfl⟩
theorem beqb {a b:Nat}:Nat.beq a b = decide (a = b):=by
 rw [Bool.eq_iff_iff,decide_eq_true_eq]; exact ⟨Nat.eq_of_beq_eq_true,λh=>by subst h; exact Nat.beq_refl a⟩
theorem topQ_ok {x:FV} {r:Int} (h:K32 x r) (hu:U32 r):KB (topQ x) (decide (r / 2147483648 = 1)):=by
 rcases h with rfl | rfl
 ·exact .inl rfl
 ·obtain ⟨m,rfl⟩:∃ m:Nat,r = m:=⟨r.toNat,by have:=hu.1; omega⟩
  right
  show fN m (λm=>FV.b (Nat.beq (m / 2147483648) 1)) = _
  rw [fN_eq,beqb]
  congr 1
  rw [decide_eq_decide]; omega
theorem zeroQ_ok {x:FV} {r:Int} (h:K32 x r) (hu:U32 r):KB (zeroQ x) (decide (r = 0)):=by
 rcases h with rfl | rfl
 ·exact .inl rfl
 ·obtain ⟨m,rfl⟩:∃ m:Nat,r = m:=⟨r.toNat,by have:=hu.1; omega⟩
  right
  show fN m (λm=>FV.b (Nat.beq m 0)) = _
  rw [fN_eq,beqb]
  congr 1
  rw [decide_eq_decide]; omega
theorem setL_len (v:FV):∀ (l:List FV) (a:Nat),(setL l v a).length = l.length
 | [],_=>rfl
 | x :: l,0=>rfl
 | x :: l,a + 1=>congrArg Nat.succ (setL_len v l a)
theorem setL_get (v:FV):∀ (l:List FV) (a i:Nat),lnth .any (setL l v a) i = if i = a/\a < l.length then v else lnth .any l i
 | [],a,i=>by rw [if_neg (by simp)]; rfl
 | x :: l,0,0=>by rw [if_pos ⟨rfl,Nat.zero_lt_succ _⟩]; rfl
 | x :: l,0,i + 1=>by rw [if_neg (by omega)]; rfl
 | x :: l,a + 1,0=>by rw [if_neg (by omega)]; rfl
 | x :: l,a + 1,i + 1=>by
  show lnth .any (setL l v a) i = _
  rw [setL_get v l a i,List.length_cons]
  by_cases h:i = a/\a < l.length
  ·rw [if_pos h,if_pos (by omega)]
  ·rw [if_neg h,if_neg (by omega)]; rfl
theorem regs_set {qr:List FV} {sr:List Int} (hl:qr.length = 16) (hs:sr.length = 16) (h:∀ i,K32 (lnth .any qr i) (sr.getD i 0)) {a:Nat} {y:FV} {r:Int} (hy:K32 y r):∀ i,K32 (lnth .any (setL qr y a) i) ((sr.set a r).getD i 0):=λi=>by
 rw [setL_get,hl]
 by_cases hi:i = a/\a < 16
 ·obtain ⟨rfl,ha⟩:=hi
  rw [if_pos ⟨rfl,ha⟩,gDd,List.getElem?_set_self (by omega)]; exact hy
 ·rw [if_neg hi,gDd]
  by_cases hia:i = a
  ·subst hia
   rw [List.set_eq_of_length_le (by omega),<- gDd]; exact h i
  ·rw [List.getElem?_set_ne (Ne.symm hia),<- gDd]; exact h i
theorem ru_set {sr:List Int} (h:∀ x ∈ sr,U32 x) {a:Nat} {r:Int} (hr:U32 r):∀ x ∈ sr.set a r,U32 x:=λx hx=>by
 rcases List.mem_or_eq_of_mem_set hx with hx | rfl
 ·exact h x hx
 ·exact hr
theorem reg_u {sr:List Int} (h:∀ x ∈ sr,U32 x) (i:Nat):U32 (sr.getD i 0):=getD_rng h i
variable {mg:List Nat} {inp:ByteArray} {out0:List Int} {rd0:Int} {q q':Q} {s:St}
theorem setsQ_ok (h:Rel mg inp out0 rd0 q s) {a:Nat} {x:FV} {r:Int} (hx:K32 x r) (hr:U32 r) (e:setsQ q a x = .ok q'):Rel mg inp out0 rd0 q' (s.sets a r):=by
 obtain ⟨y,e1,hy⟩:=frq_ok e; obtain ⟨n,e2,hn⟩:=frqB_ok e1; obtain ⟨z,e3,hz⟩:=frqB_ok e2
 cases e3
 have hy:=hy r hx; exact { h with
  ql:=(setL_len _ _ _).trans h.ql
  r16:=(List.length_set).trans h.r16
  ru:=ru_set h.ru hr
  regs:=regs_set h.ql h.r16 h.regs hy
  fn:=hn _ (topQ_ok hy hr)
  fz:=hz _ (zeroQ_ok hy hr) }
theorem rd_wr {mg:List Nat} (m:Mq) (a b:Nat) (x:MV):rdQ mg (wrQ m a x) b = if b = a then x else rdQ mg m b:=by
 induction m with
 | nil =>
  show bif' (Nat.beq b a) x _ = _
  rw [bif_beq]; rfl
 | cons c y r ih =>
  have e1:wrQ (.cons c y r) a x = bif' (Nat.beq a c) (.cons a x r) (.cons c y (wrQ r a x)):=rfl; rw [e1,bif_beq]
  by_cases h:a = c
  ·subst h
   rw [if_pos rfl]
   show bif' (Nat.beq b a) x (rdQ mg r b) = if b = a then x else bif' (Nat.beq b a) y (rdQ mg r b)
   rw [bif_beq,bif_beq]
   split <;> rfl
  ·rw [if_neg h]
   show bif' (Nat.beq b c) y (rdQ mg (wrQ r a x) b) = if b = a then x else bif' (Nat.beq b c) y (rdQ mg r b)
   rw [bif_beq,bif_beq,ih]
   by_cases hb:b = a
   ·subst hb; rw [if_neg h,if_pos rfl,if_pos rfl]
   ·rw [if_neg hb,if_neg hb]
theorem mem_set {mg:List Nat} {m:Mq} {ws:List Int} (hl:ws.length = 65536) (h:∀ a,KM (rdQ mg m a) (ws.getD a 0)) {a:Nat} (ha:a < 65536) {x:MV} {v:Int} (hx:KM x v):∀ b,KM (rdQ mg (wrQ m a x) b) ((ws.set a v).getD b 0):=λb=>by
 rw [rd_wr,gDd]
 by_cases hb:b = a
 ·subst hb
  rw [if_pos rfl,List.getElem?_set_self (by omega)]; exact hx
 ·rw [if_neg hb,List.getElem?_set_ne (Ne.symm hb),<- gDd]; exact h b
theorem m32_eq (n:Int):((m32 n:Nat):Int) = n % 4294967296:=by
 cases n with
 | ofNat m =>
  show ((m % 4294967296:Nat):Int) = (m:Int) % 4294967296
  omega
 | negSucc m =>
  show ((4294967295 - m % 4294967296:Nat):Int) = Int.negSucc m % 4294967296
  omega
theorem K32.nat {x:FV} {k:IntKind} {m:Nat} {n:Int} (h:K32 x n) (e:x = .i k m):n = m:=by
 subst e; rcases h with h | h
 ·cases h
 ·cases h; rfl
theorem mvQ_ok {x:FV} {v:Int} (h:K32 x v) (hv:U32 v):KM (mvQ x) v:=by
 rcases h with rfl | rfl
 ·trivial
 ·obtain ⟨m,rfl⟩:∃ m:Nat,v = m:=⟨v.toNat,by have:=hv.1; omega⟩
  show KM (fN m λm=>.k m) _
  rw [fN_eq]; rfl
theorem low0:∀ o < 256,(BitVec.ofInt 32 ((o:Nat):Int) &&& ~~~ BitVec.ofInt 32 255) = 0#32:=by decide +kernel
theorem mix0 {at':Int} (ha:at' % 4 = 0) (o m:Nat) (ho:o < 256):mixA (o:Int) at' (m:Int) = ((m % 256:Nat):Int):=by
 have e0:(255 * 2 ^ (8 * (at' % 4)).toNat % 4294967296:Int) = 255:=by rw [ha]; rfl
 have e1:((m:Int) % 256 * 2 ^ (8 * (at' % 4)).toNat % 4294967296:Int) = ((m % 256:Nat):Int):=by
  rw [ha]
  show ((m:Int) % 256 * 1 % 4294967296:Int) = _
  omega
 unfold mixA
 rw [e0,e1,low0 o ho]; have e2:(((0#32:BitVec 32).toNat:Nat):Int) % 4294967296 = 0:=rfl; rw [e2]; have e3:BitVec.ofInt 32 0 ||| BitVec.ofInt 32 ((m % 256:Nat):Int) = BitVec.ofInt 32 ((m % 256:Nat):Int):=by
  have:BitVec.ofInt 32 0 = 0#32:=rfl; rw [this,BitVec.zero_or]
 rw [e3,BitVec.ofInt_natCast,BitVec.toNat_ofNat]; omega
end
end Go.Proofs.YtofpekbidngnfaaGreatDoor
namespace Go.Proofs.YtofpekbidngnfaaGreatDoor
open Go.RowKit
noncomputable section
variable {mg:List Nat} {inp:ByteArray} {out0:List Int} {rd0:Int} {q q':Q} {s:St}
theorem ndiv (a b:Nat):Nat.div a b = a / b:=rfl
theorem nmod (a b:Nat):Nat.mod a b = a % b:=rfl
theorem nadd (a b:Nat):Nat.add a b = a + b:=rfl
theorem nmul (a b:Nat):Nat.mul a b = a * b:=rfl
theorem stQ_ok (hW:Wld) (ho:out0.length < 4096) (h:Rel mg inp out0 rd0 q s) {at':Nat} {sm:Bool} {x:FV} {v:Int} (hx:K32 x v) (hv:U32 v) (e:stQ mg q at' sm x = .ok q'):Rel mg inp out0 rd0 q' (stoF s at' v sm):=by
 unfold stQ at e
 simp only [ndiv,nmod] at e; rw [bif_beq,bif_beq,bif_beq] at e
 unfold stoF
 by_cases h1:at' = 4294967240
 ·rw [if_pos h1] at e
  rw [if_pos (by omega)]; obtain ⟨k,m,hxm,e1⟩:=gN_ok nR e
  cases hq:q.out with
  | cons a l=>rw [hq] at e1; cases e1
  | nil =>
   rw [hq] at e1; have e2:fN (m % 256) (λm=>QR.ok { q with out:=[m] }) = .ok q':=e1; rw [fN_eq] at e2
   cases e2
   have hout:=h.out; rw [hq,List.map_nil,List.append_nil] at hout; rw [if_neg (by rw [hout]; omega)]; have hvm:=hx.nat hxm; have hfin:s.out ++ [v % 256] = out0 ++ [Int.ofNat (m % 256)]:=by rw [hout,hvm]; rfl
   exact { h with out:=hfin }
 rw [if_neg h1] at e; rw [if_neg (by omega)]
 by_cases h2:at' = 4294967236
 ·rw [if_pos h2] at e
  rw [if_pos (by omega)]; obtain ⟨k,m,hxm,e1⟩:=gN_ok nR e; have hvm:=hx.nat hxm
  cases hz:sgnQ m with
  | no=>rw [hz] at e1; cases e1
  | ok t =>
   rw [hz] at e1
   cases e1
   have hs:=sgnQ_ok hW (m:=m) (by have:=hv.2; omega) hz; rw [<- hvm] at hs; exact { h with en:=rfl,tr:=hs }
 rw [if_neg h2] at e; rw [if_neg (by omega)]
 by_cases h3:at' = 4294967232
 ·rw [if_pos h3] at e
  rw [if_pos (by omega)]
  cases e
  exact { h with en:=rfl }
 rw [if_neg h3] at e; rw [if_neg (by omega)]; obtain ⟨h4,e1⟩:=qbif e; rw [fN_eq] at e1; obtain ⟨h5,e2⟩:=qbif e1; have h4:=Nat.eq_of_beq_eq_true h4; have h5:at' / 4 < 65536:=blt_iff.1 h5; have hw:((at':Int) / 4).toNat = at' / 4:=by omega
 cases sm with
 | true =>
  rw [if_pos rfl,if_pos (by rw [h.wl]; omega),hw]; obtain ⟨k,m,hxm,e3⟩:=gN_ok (β:=QR) nR (show gN (QR.no) _ x = QR.ok q' from e2); rw [fN_eq] at e3; have hvm:=hx.nat hxm; have hmx:∀ o:Int,0<=o/\o < 256->mixA o (at':Int) v = ((m % 256:Nat):Int):=λo ho=>by
   have ez:(at':Int) % 4 = 0:=by omega
   rw [hvm]; obtain ⟨o,rfl⟩:∃ n:Nat,o = n:=⟨o.toNat,by omega⟩; exact mix0 ez o m (by omega)
  have done:∀ o:MV,rdQ mg q.mem (at' / 4) = o->0<=s.ws.getD (at' / 4) 0/\s.ws.getD (at' / 4) 0 < 256->QR.ok { q with mem:=wrQ q.mem (at' / 4) (.k (m % 256)) } = .ok q' ->
   Rel mg inp out0 rd0 q' { s with ws:=s.ws.set (at' / 4) (mixA (s.ws.getD (at' / 4) 0) at' v) }:=λo _ hr e=>by
   cases e
   exact { h with wl:=(List.length_set).trans h.wl,wu:=ru_set h.wu (mixA_rng _ _ _),mem:=mem_set h.wl h.mem h5 (hmx _ hr) }
  have hm:=h.mem (at' / 4)
  cases hr:rdQ mg q.mem (at' / 4) with
  | u=>rw [hr] at e3; cases e3
  | b=>rw [hr] at e3 hm; exact done _ hr hm e3
  | k o =>
   rw [hr] at e3 hm; obtain ⟨h6,e4⟩:=qbif (show bif' (Nat.blt o 256) _ QR.no = QR.ok q' from e3); have:=blt_iff.1 h6; have hm:s.ws.getD (at' / 4) 0 = (o:Int):=hm; exact done _ hr (by rw [hm]; omega) e4
 | false =>
  rw [if_neg (by decide),if_pos ⟨by omega,by rw [h.wl]; omega⟩,hw]
  cases e2
  exact { h with wl:=(List.length_set).trans h.wl,wu:=ru_set h.wu hv,mem:=mem_set h.wl h.mem h5 (mvQ_ok hx hv) }
theorem ldQ_ok (h:Rel mg inp out0 rd0 q s) {at':Nat} {v:Bool} {a:Nat} (e:ldQ mg q at' v a = .ok q'):(ldrF s at' v).2.2 = true/\Rel mg inp out0 rd0 q' ((ldrF s at' v).1.sets a (ldrF s at' v).2.1):=by
 unfold ldQ at e
 simp only [ndiv,nmod] at e; rw [bif_beq,bif_beq] at e
 unfold ldrF
 by_cases h1:at' = 4294967240
 ·rw [if_pos h1] at e
  rw [if_pos (by omega)]; rw [fN_eq,bif_beq] at e
  cases hb:Nat.blt q.nx 256 with
  | true =>
   rw [hb] at e; have hn:=blt_iff.1 hb; obtain ⟨⟨r0,r1⟩,r2⟩:=h.nx hn; rw [if_pos (by rw [h.ip]; exact r1)]; refine ⟨rfl,?_⟩; have hi:inpF s.inp s.rd = (q.nx:Nat):=by
    unfold inpF
    rw [h.ip,r2]; omega
   rw [hi]
   show Rel mg inp out0 rd0 q' (({ s with rd:=s.rd + 1 }:St).sets a (q.nx:Int))
   refine setsQ_ok (q:={ q with rd:=Nat.succ q.rd,nx:=257 }) (s:={ s with rd:=s.rd + 1 }) { h with rd:=?_,nx:=λh=>absurd h (show ¬ (257:Nat) < 256 by decide),nxe:=λh=>absurd h (show ¬ (257:Nat) = 256 by decide) } (.inr rfl) ⟨by omega,by omega⟩ e
   show s.rd + 1 = rd0 + ((q.rd + 1:Nat):Int)
   rw [h.rd]; omega
  | false =>
   rw [hb] at e; have e:(if q.nx = 256 then setsQ q a (.i .u32 0) else QR.no) = .ok q':=e
   by_cases hn:q.nx = 256
   ·rw [if_pos hn] at e
    rw [if_neg (by rw [h.ip]; exact h.nxe hn)]; exact ⟨rfl,setsQ_ok (r:=0) h (.inr rfl) (by decide) e⟩
   ·rw [if_neg hn] at e; cases e
 rw [if_neg h1] at e; rw [if_neg (by omega)]
 by_cases h2:at' = 4294967244
 ·rw [if_pos h2] at e
  rw [if_pos (by omega)]; rw [bif_beq] at e; refine ⟨rfl,?_⟩
  cases hb:Nat.blt q.nx 256 with
  | true =>
   rw [hb] at e; have hn:=blt_iff.1 hb; have:=(h.nx hn).1.2
   show Rel mg inp out0 rd0 q' (s.sets a (if s.rd < s.inp.size then 1 else 0))
   rw [if_pos (by rw [h.ip]; exact this)]; exact setsQ_ok h (.inr rfl) (by decide) e
  | false =>
   rw [hb] at e; have e:(if q.nx = 256 then setsQ q a (.i .u32 0) else QR.no) = .ok q':=e
   by_cases hn:q.nx = 256
   ·rw [if_pos hn] at e
    show Rel mg inp out0 rd0 q' (s.sets a (if s.rd < s.inp.size then 1 else 0))
    rw [if_neg (by rw [h.ip]; exact h.nxe hn)]; exact setsQ_ok h (.inr rfl) (by decide) e
   ·rw [if_neg hn] at e; cases e
 rw [if_neg h2] at e; rw [if_neg (by omega)]; obtain ⟨h4,e1⟩:=qbif e; rw [fN_eq] at e1; obtain ⟨h5,e2⟩:=qbif e1; have h4:=Nat.eq_of_beq_eq_true h4; have h5:at' / 4 < 65536:=blt_iff.1 h5; have hw:((at':Int) / 4).toNat = at' / 4:=by omega
 have h40:(at':Int) % 4 = 0:=by omega
 have hm:=h.mem (at' / 4); have hu:=reg_u h.wu (at' / 4); have hby:byF s.ws at' = (s.ws.getD (at' / 4) 0 % 256,true):=by
  unfold byF
  rw [if_pos (by rw [h.wl]; omega),hw,h40]
  simp
 have hld:ldF s.ws at' = (s.ws.getD (at' / 4) 0,true):=by
  unfold ldF
  rw [if_pos ⟨h40,by rw [h.wl]; omega⟩,hw]
 have any:∀ r,U32 r->setsQ q a .any = .ok q'->Rel mg inp out0 rd0 q' (s.sets a r):=λr hr e=>setsQ_ok h (.inl rfl) hr e
 cases v with
 | true =>
  rw [if_pos rfl,hby]; refine ⟨rfl,?_⟩; have hu2:U32 (s.ws.getD (at' / 4) 0 % 256):=⟨by omega,by omega⟩
  cases hr:rdQ mg q.mem (at' / 4) with
  | u=>rw [hr] at e2; exact any _ hu2 e2
  | b=>rw [hr] at e2; exact any _ hu2 e2
  | k o =>
   rw [hr] at e2 hm; have hm:s.ws.getD (at' / 4) 0 = (o:Int):=hm; rw [hm] at hu2 ⊢; exact setsQ_ok h (x:=.i .u32 (.ofNat (o % 256))) (.inr (by congr 1)) hu2 e2
 | false =>
  rw [if_neg (by decide),hld]; refine ⟨rfl,?_⟩
  cases hr:rdQ mg q.mem (at' / 4) with
  | u=>rw [hr] at e2; exact any _ hu e2
  | b=>rw [hr] at e2; exact any _ hu e2
  | k o =>
   rw [hr] at e2 hm; have hm:s.ws.getD (at' / 4) 0 = (o:Int):=hm; rw [hm] at hu ⊢; exact setsQ_ok h (x:=.i .u32 (.ofNat o)) (.inr rfl) hu e2
theorem movQ_ok (hW:Wld) (ho:out0.length < 4096) (h:Rel mg inp out0 rd0 q s) {f:Int} {u v:Bool} {a b:Nat} {c op im:Int} (e:movQ mg q u v a b im = .ok q'):Rel mg inp out0 rd0 q' (movF s ⟨f,u,v,a,b,c,op,im⟩):=by
 obtain ⟨k,rb,hb,e1⟩:=gN_ok nR e; rw [fN_eq] at e1; simp only [nadd,nmod] at e1; have hrb:=(h.regs b).nat hb; have hat:atF s ⟨f,u,v,a,b,c,op,im⟩ = (((rb + m32 im) % 4294967296:Nat):Int):=by
  show (s.regs.getD (b:Int).toNat 0 + im % 4294967296) % 4294967296 = _
  rw [Int.toNat_natCast,hrb,<- m32_eq im]; omega
 unfold movF
 rw [hat]
 cases u with
 | true =>
  show Rel mg inp out0 rd0 q' (stoF s _ (s.regs.getD (a:Int).toNat 0) v)
  rw [Int.toNat_natCast]; exact stQ_ok hW ho h (h.regs a) (reg_u h.ru a) e1
 | false =>
  obtain ⟨r1,r2⟩:=ldQ_ok h e1
  show Rel mg inp out0 rd0 q' (if (ldrF s _ v).2.2 = true then (ldrF s _ v).1.sets (a:Int).toNat (ldrF s _ v).2.1 else _)
  rw [if_pos r1,Int.toNat_natCast]; exact r2
end
end Go.Proofs.YtofpekbidngnfaaGreatDoor
namespace Go.Proofs.YtofpekbidngnfaaGreatDoor
open Go.RowKit
noncomputable section
variable {mg:List Nat} {inp:ByteArray} {out0:List Int} {rd0:Int} {q q':Q} {s:St}
theorem and30_small:∀ t < 126,and30F ((t:Nat):Int) = t:=by decide +kernel
theorem goQ_ok (h:Rel mg inp out0 rd0 q s) (hp:q.pc<=126) {v:Bool} {t:Nat} (e:goQ q v t = .ok q'):t < 126/\Rel mg inp out0 rd0 q' (if v = true then { s with pc:=t,regs:=s.regs.set 15 (s.pc * 4) } else { s with pc:=t }):=by
 unfold goQ at e
 rw [fN_eq] at e; obtain ⟨ht,e1⟩:=qbif e; refine ⟨blt_iff.1 ht,?_⟩
 cases v with
 | true =>
  have e2:fN (q.pc * 4) (λp=>QR.ok { q with pc:=t,regs:=setL q.regs (.i .u32 (.ofNat p)) 15 }) = .ok q':=e1; rw [fN_eq] at e2
  cases e2
  rw [if_pos rfl]; have hpc:=h.pc; have hu:U32 (s.pc * 4):=⟨by omega,by omega⟩; exact { h with ql:=(setL_len _ _ _).trans h.ql,r16:=(List.length_set).trans h.r16,ru:=ru_set h.ru hu,pc:=rfl,regs:=regs_set h.ql h.r16 h.regs (.inr (by rw [hpc]; rfl)) }
 | false =>
  cases e1
  exact { h with pc:=rfl }
theorem jmpQ_ok (hW:Wld) (h:Rel mg inp out0 rd0 q s) (hp:q.pc<=126) {u v:Bool} {a c:Nat} {f b op im:Int} (e:jmpQ q u v a c im = .ok q'):Rel mg inp out0 rd0 q' (jmpF s ⟨f,u,v,a,b,c,op,im⟩):=by
 unfold jmpQ at e
 cases hh:holdsQ a q.n q.z q.c q.v with
 | no=>rw [hh] at e; cases e
 | ok t =>
  rw [hh] at e; have ht:=holdsQ_ok hW h.fn h.fz h.fc h.fv hh
  cases t with
  | false =>
   cases e
   rw [jmpF_f (x:=⟨f,u,v,a,b,c,op,im⟩) ht]; exact h
  | true =>
   rw [jmpF_t (x:=⟨f,u,v,a,b,c,op,im⟩) ht]
   cases u with
   | true =>
    have e1:(Int.rec (motive:=λ_=>QR) (λt=>goQ q v t) (λ_=>.no) (iadd (.ofNat q.pc) im):QR) = .ok q':=e; have hia:iadd (.ofNat q.pc) im = s.pc + im:=by rw [iadd_eq,h.pc]; rfl
    rw [hia] at e1
    cases hz:s.pc + im with
    | negSucc m=>rw [hz] at e1; cases e1
    | ofNat m =>
     rw [hz] at e1; obtain ⟨g1,g2⟩:=goQ_ok h hp e1; have hto:toF s ⟨f,true,v,a,b,c,op,im⟩ = (m:Int):=by
      show (if true = true then and30F (s.pc + im) else s.regs.getD (c:Int).toNat 0 / 4) = _
      rw [if_pos rfl,hz]; exact and30_small m g1
     rw [hto]; exact g2
   | false =>
    obtain ⟨k,m,hm,e1⟩:=gN_ok (β:=QR) nR (show gN QR.no _ (reg q c) = QR.ok q' from e); obtain ⟨g1,g2⟩:=goQ_ok h hp e1; have hr:=(h.regs c).nat hm; have hto:toF s ⟨f,false,v,a,b,c,op,im⟩ = ((m / 4:Nat):Int):=by
     show (if false = true then _ else s.regs.getD (c:Int).toNat 0 / 4) = _
     rw [if_neg (by decide),Int.toNat_natCast,hr]; omega
    rw [hto]; exact g2
theorem doitQ_ok (hW:Wld) (h:Rel mg inp out0 rd0 q s) {u:Bool} {a b op:Nat} {x:FV} {n:Int} (hx:K32 x n) (hn:U32 n) (e:doitQ q u a b op x = .ok q') :
 Rel mg inp out0 rd0 q' { s with regs:=s.regs.set a (doF op u (s.regs.getD b 0) n s.h s.fl).1,h:=(doF op u (s.regs.getD b 0) n s.h s.fl).2.1,fl:=(doF op u (s.regs.getD b 0) n s.h s.fl).2.2.1 }:=by
 unfold doitQ at e
 have ub:=reg_u h.ru b
 cases hd:doQ op u (reg q b) x q.h q.n q.z q.c q.v with
 | no=>rw [hd] at e; cases e
 | mk r1 h1 n1 z1 c1 v1 =>
  rw [hd] at e; obtain ⟨r2,e1,k1⟩:=frq_ok e; obtain ⟨h2,e2,k2⟩:=frq_ok e1; obtain ⟨n2,e3,k3⟩:=frqB_ok e2; obtain ⟨z2,e4,k4⟩:=frqB_ok e3; obtain ⟨c2,e5,k5⟩:=frqB_ok e4; obtain ⟨v2,e6,k6⟩:=frqB_ok e5
  cases e6
  obtain ⟨d1,d2,d3,d4,d5,d6⟩:=doQ_ok hW (h.regs b) hx h.h h.fn h.fz h.fc h.fv ub hn h.hu hd; have hs:=do_s op u (s.regs.getD b 0) n s.h s.fl ub hn h.hu; exact { h with ql:=(setL_len _ _ _).trans h.ql,r16:=(List.length_set).trans h.r16,ru:=ru_set h.ru hs.1,hu:=hs.2.1,regs:=regs_set h.ql h.r16 h.regs (k1 _ d1),h:=k2 _ d2,fn:=k3 _ d3,fz:=k4 _ d4,fc:=k5 _ d5,fv:=k6 _ d6 }
theorem recQ_ok (hW:Wld) (h:Rel mg inp out0 rd0 q s) {f:Nat} {u v:Bool} {a b c op:Nat} {im:Int} (e:recQ q f u v a b c op im = .ok q'):Rel mg inp out0 rd0 q' (recF s ⟨f,u,v,a,b,c,op,im⟩):=by
 unfold recQ at e
 simp only [nmul,nmod] at e; have hm:=m32_eq im; have alu:∀ n x,opnF s ⟨f,u,v,a,b,c,op,im⟩ = n->K32 x n->U32 n->doitQ q u a b op x = .ok q'->Rel mg inp out0 rd0 q' (aluF s ⟨f,u,v,a,b,c,op,im⟩):=λn x hn hx hu e=>by
  have:=doitQ_ok hW h hx hu e
  unfold aluF
  rw [hn]
  show Rel mg inp out0 rd0 q' { s with regs:=s.regs.set (a:Int).toNat (doF op u (s.regs.getD (b:Int).toNat 0) n s.h s.fl).1,h:=(doF op u (s.regs.getD (b:Int).toNat 0) n s.h s.fl).2.1,fl:=(doF op u (s.regs.getD (b:Int).toNat 0) n s.h s.fl).2.2.1 }
  rw [Int.toNat_natCast,Int.toNat_natCast]; exact this
 have rest:(if f = 1 then bif' v .no (fN (m32 im % 65536) λm=>doitQ q u a b op (.i .u32 (.ofNat m))) else doitQ q u a b op (reg q c)) = .ok q'->Rel mg inp out0 rd0 q' (aluF s ⟨f,u,v,a,b,c,op,im⟩):=λe=>by
  by_cases hf:f = 1
  ·rw [if_pos hf] at e
   cases v with
   | true=>cases e
   | false =>
    have e:fN (m32 im % 65536) (λm=>doitQ q u a b op (.i .u32 (.ofNat m))) = .ok q':=e; rw [fN_eq] at e; exact alu _ _ ((opnF_0 (by omega)).trans (by show im % 65536 = Int.ofNat (m32 im % 65536); rw [Int.ofNat_eq_natCast]; omega)) (.inr rfl) (show U32 (((m32 im % 65536:Nat):Int)) from ⟨by omega,by omega⟩) e
  ·rw [if_neg hf] at e
   exact alu _ _ ((opnF_2 (by omega)).trans (by rw [Int.toNat_natCast])) (h.regs c) (reg_u h.ru c) e
 rw [bif_beq,bif_beq,bif_beq] at e
 by_cases h0:op = 0
 ·rw [if_pos h0,if_pos h0] at e
  cases u with
  | true =>
   by_cases hf:f = 1
   ·have e:(bif' (bif' true (Nat.beq f 1) false) (fN (m32 im * 65536 % 4294967296) λm=>setsQ q a (.i .u32 (.ofNat m))) _:QR) = .ok q':=e
    have hb:bif' true (Nat.beq f 1) false = true:=by rw [hf]; rfl
    rw [hb] at e; have e:fN (m32 im * 65536 % 4294967296) (λm=>setsQ q a (.i .u32 (.ofNat m))) = .ok q':=e; rw [fN_eq] at e; rw [recF_2 (by omega) (by omega),Int.toNat_natCast]; have hi:imhF im = ((m32 im * 65536 % 4294967296:Nat):Int):=by
     unfold imhF
     rw [<- hm]; omega
    rw [hi]; exact setsQ_ok h (.inr rfl) ⟨by omega,by omega⟩ e
   ·have hb : bif' true (Nat.beq f 1) false = false := by
     show Nat.beq f 1 = false
     rw [beqb]; simp [hf]
    rw [hb] at e
    cases v with
    | true=>cases e
    | false =>
     rw [recF_3 (by omega)]; exact rest e
  | false =>
   rw [recF_1]; exact rest e
 ·rw [if_neg h0,if_neg h0] at e
  rw [recF_0 (by omega)]; exact rest e
theorem exQ_ok (hW:Wld) (ho:out0.length < 4096) (h:Rel mg inp out0 rd0 q s) (hp:q.pc<=126) {f:Nat} {u v:Bool} {a b c op:Nat} {im:Int} (e:exQ mg q (.mk f u v a b c op im) = .ok q') :
 Rel mg inp out0 rd0 q' (if (f:Int) = 2 then movF s ⟨f,u,v,a,b,c,op,im⟩ else if (f:Int) = 3 then jmpF s ⟨f,u,v,a,b,c,op,im⟩ else recF s ⟨f,u,v,a,b,c,op,im⟩):=by
 have e:bif' (Nat.beq f 2) (movQ mg q u v a b im) (bif' (Nat.beq f 3) (jmpQ q u v a c im) (recQ q f u v a b c op im)) = .ok q':=e; rw [bif_beq,bif_beq] at e
 by_cases h2:f = 2
 ·rw [if_pos h2] at e
  rw [if_pos (by omega)]; exact movQ_ok hW ho h e
 rw [if_neg h2] at e; rw [if_neg (by omega)]
 by_cases h3:f = 3
 ·rw [if_pos h3] at e
  rw [if_pos (by omega)]; exact jmpQ_ok hW h hp e
 rw [if_neg h3] at e; rw [if_neg (by omega)]; exact recQ_ok hW h e
theorem rd_has {m:Mq} {a:Nat} (h:hasQ m a = false):rdQ mg m a = .k (nthN mg a):=by
 induction m with
 | nil=>rfl
 | cons b x r ih =>
  have h:bif' (Nat.beq a b) true (hasQ r a) = false:=h; rw [bif_beq] at h
  show bif' (Nat.beq a b) x (rdQ mg r a) = _
  rw [bif_beq]
  by_cases hb:a = b
  ·rw [if_pos hb] at h; cases h
  ·rw [if_neg hb] at h ⊢; exact ih h
theorem stepQ_ok (him:∀ i < 126,nthN mg i < 4294967296) (hW:Wld) (ho:out0.length < 4096) (h:Rel mg inp out0 rd0 q s) (e:stepQ mg q = .ok q'):Rel mg inp out0 rd0 q' (stepF s):=by
 unfold stepQ at e
 cases hh:hasQ q.mem q.pc with
 | true=>rw [hh] at e; cases e
 | false =>
  rw [hh] at e; obtain ⟨hl,e1⟩:=qbif (show bif' (Nat.blt q.pc 126) (fN q.pc λpc=>exQ mg { q with pc:=Nat.succ pc } (insn (nthN mg pc))) QR.no = .ok q' from e); rw [fN_eq] at e1; have hl:=blt_iff.1 hl; have hm:=h.mem q.pc; rw [rd_has hh] at hm; have hm:s.ws.getD q.pc 0 = (nthN mg q.pc:Nat):=hm; have hld:ldF s.ws (s.pc * 4) = (((nthN mg q.pc:Nat):Int),true):=by
   unfold ldF
   have hpc:=h.pc; rw [if_pos ⟨by omega,by rw [h.wl]; omega⟩]; have:(s.pc * 4 / 4).toNat = q.pc:=by omega
   rw [this,hm]
  cases hi:insn (nthN mg q.pc) with
  | no=>rw [hi] at e1; cases e1
  | mk f u v a b c op im =>
   rw [hi] at e1; obtain ⟨d1,d2⟩:=insn_ok hW (him q.pc hl) hi; have hw:s.word = (nthN mg q.pc:Nat):=by unfold St.word; rw [hld]
   have hh2:s.here = true:=by unfold St.here; rw [hld]
   have h2:Rel mg inp out0 rd0 { q with pc:=Nat.succ q.pc } { s with pc:=s.pc + 1 }:={ h with pc:=(show s.pc + 1 = ((q.pc + 1:Nat):Int) by rw [h.pc]; omega) }; have h3:=exQ_ok hW ho h2 (show q.pc + 1<=126 by omega) e1
   unfold stepF
   rw [hh2,hw,d1,d2,if_neg (by decide),if_pos rfl]; exact h3
end
end Go.Proofs.YtofpekbidngnfaaGreatDoor
namespace Go.Proofs.YtofpekbidngnfaaGreatDoor
open Go.RowKit
noncomputable section
variable {mg:List Nat} {hd:Nat} {inp:ByteArray} {out0:List Int} {rd0:Int}
def Runs (m:Nat) (s s':St):Prop:=∀ r,runF (m + r) s = ((runF r s').1 + m,(runF r s').2)
theorem Runs.one {s:St} (h:s.en = 0):Runs 1 s (stepF s):=λr=>by rw [Nat.add_comm 1 r,runF,if_pos h]
theorem Runs.trans {m n:Nat} {s s1 s2:St} (a:Runs m s s1) (b:Runs n s1 s2):Runs (m + n) s s2:=λr=>by
 rw [Nat.add_assoc,a,b]
 show ((runF r s2).1 + n + m,_) = ((runF r s2).1 + (m + n),_)
 rw [Nat.add_assoc,Nat.add_comm n m]
theorem runQ_ok (him:∀ i < 126,nthN mg i < 4294967296) (hW:Wld) (ho:out0.length < 4096):∀ (n:Nat) {k:Nat} {q:Q} {s:St} {k':Nat} {q':Q},Rel mg inp out0 rd0 q s->q.en = 0->runQ mg hd n k q = .ok k' q'->∃ m s',k' = k + m/\Rel mg inp out0 rd0 q' s'/\Runs m s s'
 | 0,k,q,s,k',q',h,h0,e=>by cases e
 | n + 1,k,q,s,k',q',h,h0,e=>by
  have e:(QR.rec (motive:=λ_=>QS) .no (λq=>bif' (Nat.beq q.en 0) (bif' (Nat.beq q.pc hd) (.ok (Nat.succ k) q) (runQ mg hd n (Nat.succ k) q)) (.ok (Nat.succ k) q)) (stepQ mg q):QS) = .ok k' q':=e; have hs0:s.en = 0:=by rw [h.en,h0]; rfl
  cases hq:stepQ mg q with
  | no=>rw [hq] at e; cases e
  | ok q1 =>
   rw [hq] at e; have h1:=stepQ_ok him hW ho h hq; have e:bif' (Nat.beq q1.en 0) (bif' (Nat.beq q1.pc hd) (.ok (Nat.succ k) q1) (runQ mg hd n (Nat.succ k) q1)) (.ok (Nat.succ k) q1) = .ok k' q':=e; rw [bif_beq,bif_beq] at e
   by_cases c1:q1.en = 0
   ·rw [if_pos c1] at e
    by_cases c2:q1.pc = hd
    ·rw [if_pos c2] at e
     cases e
     exact ⟨1,_,rfl,h1,.one hs0⟩
    ·rw [if_neg c2] at e
     obtain ⟨m,s',a1,a2,a3⟩:=runQ_ok him hW ho n h1 c1 e; exact ⟨1 + m,s',by omega,a2,(Runs.one hs0).trans a3⟩
   ·rw [if_neg c1] at e
    cases e
    exact ⟨1,_,rfl,h1,.one hs0⟩
theorem eqU_ok {x y:FV} {v:Int} (e:eqU x y = true) (h:K32 y v):K32 x v:=by
 cases x with
 | i k n =>
  obtain ⟨h1,h2⟩:=bifT (show bif' (Nat.beq (kN k) 6) (gI false (λ_ m=>ieq n m) y) false = true from e); have hk:k = .u32:=by cases k <;> first | rfl | cases h1
  subst hk; rcases h with rfl | rfl
  ·cases h2
  ·have:n = v:=ieq_of h2
   subst this; exact .inr rfl
 | _=>cases e
theorem leR_ok {q:Q} {sr:List Int} (h:∀ i,K32 (lnth .any q.regs i) (sr.getD i 0)):∀ (l:List FV) (i:Nat),leR q l i = true->∀ j,K32 (lnth .any l j) (sr.getD (i + j) 0)
 | [],i,_,j=>.inl (by cases j <;> rfl)
 | x :: l,i,e,j=>by
  obtain ⟨h1,h2⟩:=bifT (show bif' (bif' (isAny x) true (eqU x (reg q i))) (leR q l (Nat.succ i)) false = true from e)
  cases j with
  | zero =>
   show K32 x _
   cases ha:isAny x with
   | true=>cases x <;> first | exact .inl rfl | cases ha
   | false =>
    rw [ha] at h1; exact eqU_ok h1 (h i)
  | succ j =>
   have:=leR_ok h l (i + 1) h2 j; rw [show i + (j + 1) = i + 1 + j by omega]; exact this
theorem leV_ok {x y:MV} {v:Int} (e:leV x y = true) (h:KM y v):KM x v:=by
 cases x with
 | u=>trivial
 | b =>
  cases y with
  | u=>cases e
  | b=>exact h
  | k n =>
   have:=blt_iff.1 (show Nat.blt n 256 = true from e); have h:v = (n:Int):=h; subst h; exact ⟨by omega,by omega⟩
 | k n =>
  cases y with
  | u=>cases e
  | b=>cases e
  | k m =>
   have:=Nat.eq_of_beq_eq_true (show Nat.beq n m = true from e); subst this; exact h
theorem keys_ok {p:Mq} {a:Nat} (hp:hasQ p a = false):∀ (m:Mq),keysQ m p = true->hasQ m a = false
 | .nil,_=>rfl
 | .cons b x r,e=>by
  obtain ⟨h1,h2⟩:=bifT (show bif' (hasQ p b) (keysQ r p) false = true from e)
  show bif' (Nat.beq a b) true (hasQ r a) = false
  rw [bif_beq]
  by_cases hb:a = b
  ·subst hb; rw [hp] at h1; cases h1
  ·rw [if_neg hb]; exact keys_ok hp r h2
theorem leM_ok {q p:Mq} {ws:List Int} (h:∀ a,KM (rdQ mg q a) (ws.getD a 0)) (e:leM mg q p = true):∀ a,KM (rdQ mg p a) (ws.getD a 0):=λa=>by
 obtain ⟨h1,h2⟩:=bifT (show bif' (keysQ q p) _ false = true from e)
 cases hp:hasQ p a with
 | false =>
  rw [rd_has hp,<- rd_has (keys_ok hp q h1)]; exact h a
 | true =>
  clear e h1
  induction p with
  | nil=>cases hp
  | cons b x r ih =>
   obtain ⟨h3,h4⟩:=bifT (show bif' (leV x (rdQ mg q b)) _ false = true from h2); have hp:bif' (Nat.beq a b) true (hasQ r a) = true:=hp
   show KM (bif' (Nat.beq a b) x (rdQ mg r a)) _
   rw [bif_beq] at hp ⊢
   by_cases hb:a = b
   ·subst hb; rw [if_pos rfl]; exact leV_ok h3 (h a)
   ·rw [if_neg hb] at hp ⊢; exact ih h4 hp
def nxt:List UInt8->Nat
 | []=>256
 | c :: _=>c.toNat
theorem head_ok {q:Q} {s:St} {out1:List Int} {rd1:Int} (h:Rel mg inp out1 rd1 q s) (hl:leH mg hd q = true) (hr0:0<=s.rd) (hr1:s.rd<=inp.size) {l:List UInt8} (hdr:inp.data.toList.drop s.rd.toNat = l):Rel mg inp s.out s.rd (qH hd (nxt l)) s:=by
 obtain ⟨h1,h2⟩:=bifT (show bif' (Nat.beq q.en 0) _ false = true from hl); obtain ⟨h3,h4⟩:=bifT h2; obtain ⟨h5,h6⟩:=bifT h4; obtain ⟨h7,h8⟩:=bifT h6; have h1:=Nat.eq_of_beq_eq_true h1; have h3:=Nat.eq_of_beq_eq_true h3; have h8:=ieq_of h8; have hsz:inp.data.toList.length = inp.size:=by rw [Array.length_toList]; rfl
 exact { h with
  ql:=rfl
  regs:=λi=>by have:=leR_ok h.regs (qH hd 0).regs 0 h5 i; rw [Nat.zero_add] at this; exact this
  h:=.inl rfl
  fn:=.inl rfl
  fz:=.inl rfl
  fc:=.inl rfl
  fv:=.inl rfl
  pc:=by rw [h.pc,h3]; rfl
  mem:=leM_ok h.mem h7
  out:=by show s.out = s.out ++ []; rw [List.append_nil]
  rd:=by show s.rd = s.rd + ((0:Nat):Int); omega
  en:=by rw [h.en,h1]; rfl
  tr:=by rw [h.tr,h8]; rfl
  nx:=λhn=>by
   cases l with
   | nil=>exact absurd hn (by show ¬ (256:Nat) < 256; decide)
   | cons c l =>
    have hlt:s.rd.toNat < inp.data.toList.length:=by
     rcases Nat.lt_or_ge s.rd.toNat inp.data.toList.length with h | h
     ·exact h
     ·rw [List.drop_eq_nil_of_le h] at hdr; cases hdr
    refine ⟨⟨hr0,by omega⟩,?_⟩; rw [List.drop_eq_getElem_cons hlt] at hdr; have hc:=(List.cons.inj hdr).1; rw [gDd,gEe hlt]
    show (inp.data.toList[s.rd.toNat]).toNat = c.toNat
    rw [hc]
  nxe:=λhn=>by
   cases l with
   | nil =>
    have:=List.drop_eq_nil_iff.1 hdr; omega
   | cons c l =>
    have:=UInt8.toNat_lt c; have hn:c.toNat = 256:=hn
    omega }
end
end Go.Proofs.YtofpekbidngnfaaGreatDoor
