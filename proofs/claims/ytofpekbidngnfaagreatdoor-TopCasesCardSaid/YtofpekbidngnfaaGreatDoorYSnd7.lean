/-
  One's own library, part 5d: each operation does what the evaluator says.
-/
import Derived.Test.YtofpekbidngnfaaGreatDoorYSnd3
import Derived.Great.FillDense
set_option linter.unusedSectionVars false
set_option linter.unusedSimpArgs false
set_option linter.unusedVariables false
namespace Go.Proofs.YtofpekbidngnfaaGreatDoor
open Go.RowKit
section
variable {P:Program} {o:Oper} {a:Act} {σ:Sg} {H:List ABlk} {w:World} {s:List AV}
theorem bnd_sound {x:Option Operand} {x':Option Opd} {d:Nat} {l:Int} (hx:opdO x = some x') (hs:SS σ s a) (hl:bnd s d x' = some l) :
 (x = none/\l = d)\/∃ y k,x = some y/\a.eval y = .int k l:=by
 cases x with
 | none =>
  simp [opdO] at hx; subst hx; simp [bnd] at hl; exact .inl ⟨rfl,hl.symm⟩
 | some y =>
  simp only [opdO,Option.map_eq_some_iff] at hx; obtain ⟨y',hy,rfl⟩:=hx; have h1:=get_sound hy hs
  unfold bnd at hl
  simp only at hl
  split at hl
  ·rename_i k n e1
   cases hl
   rw [e1] at h1; exact .inr ⟨y,k,rfl,h1.int_inv⟩
  ·cases hl
theorem run_sliceBounds {b:Bool} {len cap:Nat} {lo hi:Option Operand} {l h:Int} (hl:(lo = none/\l = (0:Nat))\/∃ y k,lo = some y/\a.eval y = .int k l) (hh:(hi = none/\h = len)\/∃ y k,hi = some y/\a.eval y = .int k h)
 (h0:0<=l) (h1:l<=h) (h2:h<=cap) (w:World):(Instr.sliceBounds b len cap (lo.map a.eval) (hi.map a.eval) none).run P w = .ok (l.toNat,h.toNat,cap) w:=by
 have hh0:0<=h:=by omega
 have c1:(0<=h/\h<=(cap:Int)):=⟨hh0,h2⟩; have c2:(0<=l/\l<=h):=⟨h0,h1⟩; rcases hl with ⟨rfl,rfl⟩ | ⟨y,k,rfl,hy⟩ <;> rcases hh with ⟨rfl,rfl⟩ | ⟨z,k',rfl,hz⟩ <;>
  simp [Instr.sliceBounds,Instr.sliceBound,asIntOf, *] <;> omega
theorem slice_data {es:List (List Dat)} {u:Value} {l h sz:Nat} (hd:VD σ.M (.sl es) u) (h1:l<=h) (h2:h<=es.length) (hz:∀ e ∈ es,e.length = sz) :
 ∃ ad c,u = .slice ad es.length c/\(es.length<=c\/es = [])/\VD σ.M (.sl ((es.drop l).take (h - l))) (.slice (if c = l then ad else ad.map (·.add (l * sz))) (h - l) (c - l)):=by
 cases hd with
 | nil =>
  simp at h2; subst h2; have:l = 0:=by omega
  subst this; exact ⟨_,_,rfl,.inr rfl,by simpa using VD.nil⟩
 | sl uu h3 h4 hm h5 h6 h7 =>
  rename_i ad c sz'
  refine ⟨_,_,rfl,.inl h4,?_⟩; have hlen:((es.drop l).take (h - l)).length = h - l:=by simp; omega
  by_cases hlh:l = h
  ·subst hlh
   simp
   exact .nil
  ·have hszz : sz' = sz := by
    have:es ≠ []:=h3; obtain ⟨e,r,rfl⟩:=List.exists_cons_of_ne_nil this; rw [<- h5 e (by simp),<- hz e (by simp)]
   subst hszz; rw [if_neg (by omega)]; have hget:∀ (i:Nat) (e:List Dat),((es.drop l).take (h - l))[i]? = some e->es[l + i]? = some e:=λi e hi=>by
    rw [List.getElem?_take] at hi
    split at hi
    ·rwa [List.getElem?_drop] at hi
    ·cases hi
   have:=VD.sl (M:=σ.M) (es:=(es.drop l).take (h - l)) (a:=ad.add (l * sz')) (cap:=c - l) (sz:=sz') (λi j=>uu (l + i) j) (λe=>by rw [e] at hlen; simp at hlen; omega) (by omega) (by omega)
    (λe he=>h5 e (List.mem_of_mem_drop (List.mem_of_mem_take he)))
    (fun i e j d hi hj => by
      rw [addr_add_add,show l * sz' + (i * sz' + j) = (l + i) * sz' + j by rw [Nat.add_mul]; omega]; exact h6 _ _ _ _ (hget i e hi) hj)
    (λi e j d hi hj=>h7 _ _ _ _ (hget i e hi) hj)
   rw [hlen] at this; exact this
theorem slA_sound {x v:AV} {u:Value} {lo hi:Option Operand} {l h:Int} {n sz:Nat} {t:TypeId} (hx:VR σ x u) (hn:lenA x = some n)
 (hl:(lo = none/\l = (0:Nat))\/∃ y k,lo = some y/\a.eval y = .int k l) (hh:(hi = none/\h = n)\/∃ y k,hi = some y/\a.eval y = .int k h)
 (hv:slA x l h sz = some v) (ht:(P.underlying t = some .string/\∃ b,x = .d (.v (.string b)))\/(∃ e,P.underlying t = some (.slice e)/\szOf P e = some sz/\∀ b,x ≠ .d (.v (.string b)))) (w:World) :
 ∃ u',(Instr.sliceAt t u (lo.map a.eval) (hi.map a.eval) none).run P w = .ok u' w/\VR σ v u':=by
 rcases ht with ⟨ht,b,rfl⟩ | ⟨e,ht,hz,hb⟩
 ·have hu:=hx.str_inv
  subst hu; simp [lenA] at hn; subst hn; simp only [slA] at hv
  split at hv
  ·rename_i hc
   cases hv
   refine ⟨_,?_,VR.mk_str _⟩; simp [Instr.sliceAt,Instr.slice,run_underlying ht,run_sliceBounds (P:=P) (b:=false) hl hh hc.1 hc.2.1 hc.2.2]
  ·cases hv
 ·have run : ∀ ad m c, u = .slice ad m c -> m = n -> 0 <= l -> l <= h -> h <= c -> (Instr.sliceAt t u (lo.map a.eval) (hi.map a.eval) none).run P w =
   .ok (.slice (if c = l.toNat then ad else ad.map (·.add (l.toNat * sz))) (h.toNat - l.toNat) (c - l.toNat)) w:=λad m c hu hm c1 c2 c3=>by
   subst hu; subst hm; simp [Instr.sliceAt,Instr.slice,run_underlying ht,run_sliceBounds (P:=P) (b:=true) hl hh c1 c2 c3,szOf_run hz]
  have data:∀ es,VD σ.M (.sl es) u->n = es.length->0<=l/\l<=h/\h<=es.length/\es.all (λe=>e.length == sz) = true ->
   ∃ u',(Instr.sliceAt t u (lo.map a.eval) (hi.map a.eval) none).run P w = .ok u' w/\VR σ (.d (.sl ((es.drop l.toNat).take (h.toNat - l.toNat)))) u':=λes hd hne ⟨c1,c2,c3,c4⟩=>by
   obtain ⟨ad,c,hu,hcap,hr⟩:=slice_data (σ:=σ) hd (l:=l.toNat) (h:=h.toNat) (sz:=sz) (by omega) (by omega) (λe he=>by simpa using List.all_eq_true.1 c4 e he); have hcap':h<=c:=by
    rcases hcap with hcap | rfl
    ·omega
    ·simp at c3; omega
   exact ⟨_,run ad _ c hu hne.symm c1 c2 hcap',.d hr⟩
  unfold slA at hv
  split at hv
  ·rename_i b; exact absurd rfl (hb b)
  ·rename_i es
   split at hv
   ·rename_i hc
    cases hv
    simp [lenA] at hn
    cases hx with
    | d hd=>exact data es hd hn.symm hc
   ·cases hv
  ·rename_i b sz' es
   split at hv
   ·rename_i hc
    obtain ⟨c1,c2,c3,rfl⟩:=hc
    cases hv
    simp [lenA] at hn
    cases hx with
    | gsl _ hz hd=>exact data es hd hn.symm ⟨c1,c2,c3,List.all_eq_true.2 λe he=>by simpa using hz e he⟩
   ·cases hv
  ·split at hv
   ·rename_i hc
    obtain ⟨rfl,rfl⟩:=hc
    cases hv
    obtain ⟨ad,rfl⟩:=hx.esl_inv; simp [lenA] at hn; refine ⟨_,run ad 0 0 rfl hn (by omega) (by omega) (by omega),?_⟩
    simp
    exact .esl
   ·cases hv
  ·rename_i b off m cap sz'
   split at hv
   ·rename_i hc
    obtain ⟨c1,c2,c3,rfl⟩:=hc; simp [lenA] at hn
    cases hx with
    | hsl0 _ =>
     have hl0:l = 0:=by omega
     have hh0:h = 0:=by omega
     subst hl0; subst hh0; simp at hv; subst hv; have hr:=run _ 0 0 rfl (by omega) c1 c2 (by omega); refine ⟨_,hr,?_⟩; exact .d .nil
    | hsl hφ hN hoN hle hcc hml =>
     rename_i g cap' N
     have hr:=run _ m cap' rfl hn c1 c2 (by omega)
     split at hv
     ·rename_i hlc
      cases hv
      refine ⟨_,hr,?_⟩; have e2:h.toNat - l.toNat = 0:=by omega
      rw [e2]; exact .d .nil
     ·rename_i hlc
      cases hv
      refine ⟨_,hr,?_⟩; rw [if_neg (by omega)]; simp only [Option.map_some,addr_lit]; refine .hsl hφ hN ?_ (by omega) (by omega) (by omega); have:l.toNat * sz' + (cap' - l.toNat) * sz' = cap' * sz':=by rw [<- Nat.add_mul]; congr 1; omega
      omega
   ·cases hv
  ·cases hv
theorem ok_sli {t:TypeId} {x:Operand} {lo hi:Option Operand} {x':Opd} {lo' hi':Option Opd} {l h':Int} {n sz:Nat} {v:AV} (ho:o.op = .slice t x lo hi none) (hx:opd x = some x') (hlo:opdO lo = some lo') (hhi:opdO hi = some hi')
 (hs:SS σ s a) (h:HR σ H w) (hn:lenA (get s x') = some n) (hl:bnd s 0 lo' = some l) (hh:bnd s n hi' = some h') (hv:slA (get s x') l h' sz = some v)
 (ht:(P.underlying t = some .string/\∃ b,get s x' = .d (.v (.string b)))\/(∃ e,P.underlying t = some (.slice e)/\szOf P e = some sz/\∀ b,get s x' ≠ .d (.v (.string b)))):OpOk P o a σ H w v H:=by
 obtain ⟨u',hr,hvr⟩:=slA_sound (P:=P) (get_sound hx hs) hn (bnd_sound hlo hs hl) (bnd_sound hhi hs hh) hv ht w; refine .pure h ?_ hvr; simp [execOp,ho,hr]
theorem ints_sound (hs:SS σ s a):∀ {xs:List Operand} {ys:List Opd} {ns:List (IntKind × Int)},opds xs = some ys->ints s ys = some ns->xs.map a.eval = ns.map λp=>.int p.1 p.2
 | [],ys,ns,h,hn=>by simp [opds] at h; subst h; simp [ints] at hn; subst hn; rfl
 | x :: xs,ys,ns,h,hn=>by
  simp only [opds,List.mapM_cons,Option.bind_eq_bind,Option.bind_eq_some_iff] at h; obtain ⟨y,hy,zs,hz,h⟩:=h; simp at h; subst h; simp only [ints] at hn
  split at hn
  ·rename_i k n r e1 e2
   cases hn
   have h1:=get_sound hy hs; rw [e1] at h1; simp [h1.int_inv,ints_sound hs hz e2]
  ·cases hn
theorem ok_mn {c:Call} {ys:List Opd} {k:IntKind} {n:Int} {r:List (IntKind × Int)} (ho:o.op = .call c) (hc:c.callee = .builtin .min) (hy:opds c.args.toList = some ys) (hs:SS σ s a) (h:HR σ H w)
 (hn:ints s ys = some ((k,n) :: r)):OpOk P o a σ H w (.d (.v (.int k (r.foldl (λa b=>if b.2 < a then b.2 else a) n)))) H:=by
 have hm:=ints_sound hs hy hn; have hf:∀ (r:List (IntKind × Int)) (n:Int) (w:World),((r.map λp=>Value.int p.1 p.2).foldlM Builtin.min2 (.int k n)).run P w = .ok (.int k (r.foldl (λa b=>if b.2 < a then b.2 else a) n)) w:=by
  intro r
  induction r with
  | nil=>intro n w; simp
  | cons p r ih=>intro n w; simp [Builtin.min2,ih]
 refine .pure h ?_ (VR.mk_int _ _); have hA:(c.args.map a.eval).toList = .int k n :: r.map λp=>.int p.1 p.2:=by simpa using hm
 simp [execOp,ho,resolve,hc,invoke,builtin,Builtin.min_]; simp at hA; rw [hA]; simp [hf]
theorem ok_mx {c:Call} {ys:List Opd} {k:IntKind} {n:Int} {r:List (IntKind × Int)} (ho:o.op = .call c) (hc:c.callee = .builtin .max) (hy:opds c.args.toList = some ys) (hs:SS σ s a) (h:HR σ H w)
 (hn:ints s ys = some ((k,n) :: r)):OpOk P o a σ H w (.d (.v (.int k (r.foldl (λa b=>if b.2 > a then b.2 else a) n)))) H:=by
 have hm:=ints_sound hs hy hn; have hf:∀ (r:List (IntKind × Int)) (n:Int) (w:World),((r.map λp=>Value.int p.1 p.2).foldlM Builtin.max2 (.int k n)).run P w = .ok (.int k (r.foldl (λa b=>if b.2 > a then b.2 else a) n)) w:=by
  intro r
  induction r with
  | nil=>intro n w; simp
  | cons p r ih=>intro n w; simp [Builtin.max2,ih]
 refine .pure h ?_ (VR.mk_int _ _); have hA:(c.args.map a.eval).toList = .int k n :: r.map λp=>.int p.1 p.2:=by simpa using hm
 simp [execOp,ho,resolve,hc,invoke,builtin,Builtin.max_]; simp at hA; rw [hA]; simp [hf]
theorem ok_mkf {f:FuncId} {first caps:Array Operand} {ys:List Opd} (ho:o.op = .makeFunc (.func f) first caps) (h0:first.isEmpty = true) (hy:opds caps.toList = some ys) (hs:SS σ s a) (h:HR σ H w) :
 OpOk P o a σ H w (.fn f (ys.map (get s))) H:=by
 have h0':first = #[]:=by simpa using h0
 have hv:=opds_sound hs hy; refine .pure h (u:=.func (.func f) #[] (caps.toList.map a.eval).toArray) ?_ (.fn hv.1 hv.2); simp [execOp,ho,h0',Instr.makeFunc]
 apply Array.ext'
 simp
end
theorem fold_splice (off:Nat) (vs:List Value) (cs:Array Value) (h:off + vs.length<=cs.size) :
 ((vs.zipIdx 0).foldl (λcs (x:Value × Nat)=>cs.setIfInBounds (off + x.2) x.1) cs).toList = cs.toList.take off ++ vs ++ cs.toList.drop (off + vs.length):=by
 obtain ⟨h1,h2⟩:=Go.Great.foldl_set off vs 0 cs
 apply List.ext_getElem?
 intro k
 rw [Array.getElem?_toList,h2 k]; simp only [Nat.add_zero]; have htl:(cs.toList.take off).length = off:=by simp; omega
 by_cases hk:k < off
 ·rw [if_neg (by omega),List.append_assoc,List.getElem?_append_left (by rw [htl]; exact hk),List.getElem?_take,if_pos hk,Array.getElem?_toList]
 ·by_cases hk2:k < off + vs.length
  ·rw [if_pos ⟨by omega,hk2,by omega⟩,List.append_assoc,List.getElem?_append_right (by rw [htl]; omega),htl,List.getElem?_append_left (by omega)]
  ·rw [if_neg (by omega),List.getElem?_append_right (by rw [List.length_append,htl]; omega),List.length_append,htl,List.getElem?_drop,<- Array.getElem?_toList]
   congr 1; omega
theorem run_mapM_list {α β:Type} {P:Program} {w:World} (g:α->Sem β) (r:α->β):∀ l:List α,(∀ x ∈ l,(g x).run P w = .ok (r x) w)->(l.mapM g).run P w = .ok (l.map r) w
 | [],_=>by simp
 | x :: l,h=>by
  have h0:=h x (by simp); have ih:=run_mapM_list g r l (λy hy=>h y (by simp [hy])); simp [List.mapM_cons,h0,ih]
section
variable {P:Program} {o:Oper} {a:Act} {σ:Sg} {H:List ABlk} {w:World} {s:List AV}
theorem fillA_sound {fs:Array Field} (place:Nat->Option (Nat × Nat)) (hp:∀ i f n,fs[i]? = some f->szOf P f.type = some n->place i = some (f.offset,n)) (hs:SS σ s a) :
 ∀ {ps:List (Nat × Operand)} {ps':List (Nat × Nat × Opd)} {z zs:List AV} {zv:Array Value},partsOf P fs ps = some ps'->VRs σ z zv.toList->fillA z (ps'.map λp=>(p.1,p.2.1,get s p.2.2)) = some zs ->
  ∃ r,Instr.fill place zv (ps.map λp=>(p.1,a.eval p.2)) = some r/\VRs σ zs r.toList
 | [],ps',z,zs,zv,hps,hz,hf=>by
  simp [partsOf] at hps; subst hps; simp [fillA] at hf; subst hf; exact ⟨zv,rfl,hz⟩
 | (i,x) :: ps,ps',z,zs,zv,hps,hz,hf=>by
  simp only [partsOf] at hps
  split at hps
  ·rename_i f y r' e1 e2 e3
   split at hps
   ·rename_i n e4
    cases hps
    simp only [List.map_cons,fillA] at hf
    split at hf
    ·rename_i hc
     simp only [Bool.and_eq_true,beq_iff_eq,decide_eq_true_eq] at hc; obtain ⟨⟨c1,c2⟩,c3⟩:=hc; have hv:=cellsAV_sound (get_sound e2 hs) c1; have hvl:=hv.1; have hzl:=hz.1; simp only [Array.length_toList] at hvl hzl; have hsz:(a.eval x).cells.size = n:=by omega
     have hsp:=fold_splice f.offset (a.eval x).cells.toList zv (by simp; omega); obtain ⟨r,hr,hrv⟩:=fillA_sound place hp hs (zv:=((a.eval x).cells.toList.zipIdx 0).foldl (λcs (x:Value × Nat)=>cs.setIfInBounds (f.offset + x.2) x.1) zv) e3 (by
      rw [hsp]; have:=((hz.take f.offset).append hv).append (hz.drop (f.offset + (cellsAV (get s y)).length)); rw [hvl] at this
      simpa [splice,hvl] using this) hf
     refine ⟨r,?_,hrv⟩; simp only [List.map_cons]
     unfold Instr.fill
     simp only [hp i f n e1 e4,hsz]; rw [if_neg (by simp; omega),<- hr]
     congr 1
     rw [<- Array.foldl_toList,Array.toList_zipIdx]
    ·cases hf
   ·cases hps
  ·cases hps
theorem ok_bd {t:TypeId} {ps:Array (Nat × Operand)} {fs:Array Field} {z zs:List AV} {ps':List (Nat × Nat × Opd)} (ho:o.op = .build t ps) (ht:P.underlying t = some (.struct fs)) (hz:zeroOf P t = some z)
 (hall:fs.toList.all (λf=>(szOf P f.type).isSome) = true) (hps:partsOf P fs ps.toList = some ps') (hs:SS σ s a) (h:HR σ H w) (hf:fillA z (ps'.map λp=>(p.1,p.2.1,get s p.2.2)) = some zs) :
 OpOk P o a σ H w (.agg zs) H:=by
 obtain ⟨i,zv,hi,hzv,hv⟩:=zeroOf_spec hz
 let pl:Array (Nat × Nat):=(fs.toList.map λf=>(f.offset,(szOf P f.type).getD 0)).toArray
 obtain ⟨r,hr,hrv⟩:=fillA_sound (P:=P) (λj=>pl[j]?) (λj f n hj hn=>by simp [pl,hj,hn]) hs hps (hv σ) hf; refine .pure h (u:=.agg r) ?_ (by obtain ⟨l⟩:=r; exact .agg hrv.1 hrv.2); have hm:(fs.mapM λf=>(do pure (f.offset,<- sizeOf f.type):Sem (Nat × Nat))).run P w = .ok pl w:=by
  rw [Array.mapM_eq_mapM_toList]; simp only [Sem.run_map]; rw [run_mapM_list (P:=P) (w:=w) _ (λf:Field=>(f.offset,(szOf P f.type).getD 0)) fs.toList (λf hf=>by
   have:=List.all_eq_true.1 hall f hf; obtain ⟨n,hn⟩:=Option.isSome_iff_exists.1 this; simp [szOf_run hn,hn])]
  rfl
 have hpm:(ps.map λx=>(x.1,a.eval x.2)).toList = ps.toList.map λx=>(x.1,a.eval x.2):=by simp
 have hm':(fs.mapM λf=>Functor.map (λa=>(f.offset,a)) (sizeOf f.type):Sem (Array (Nat × Nat))).run P w = .ok pl w:=by
  simpa using hm
 simp [execOp,ho,Instr.build,run_zeroValue hi hzv,run_underlying ht,hm',hr]
theorem datss_sound:∀ {xs:List (List AV)} {es:List (List Dat)} {us:List Value},VRs σ xs.flatten us->datss xs = some es->VDs σ.M es.flatten us/\es.map List.length = xs.map List.length
 | [],es,us,h,hd=>by
  simp [datss] at hd; subst hd; exact ⟨⟨by simpa using h.1,λi d u h1=>by simp at h1⟩,rfl⟩
 | x :: xs,es,us,h,hd=>by
  simp only [datss] at hd
  split at hd
  ·rename_i d ds e1 e2
   cases hd
   have hlen:=h.1; simp only [List.flatten_cons,List.length_append] at hlen; have hx:VRs σ x (us.take x.length):=by
    have:=h.take x.length
    simpa using this
   have hxs:VRs σ xs.flatten (us.drop x.length):=by
    have:=h.drop x.length
    simpa using this
   have h1:=toDats_sound hx e1; obtain ⟨h2,h3⟩:=datss_sound hxs e2; have hdl:d.length = x.length:=by rw [h1.1,List.length_take]; omega
   refine ⟨?_,by simp [hdl,h3]⟩; have:=h1.append h2
   rwa [List.take_append_drop] at this
  ·cases hd
theorem rowOf_sound (hs:SS σ s a):∀ {k:Nat} {ps:List (Nat × Operand)} {l:List Opd},rowOf k ps = some l ->
 ∃ us:List Value,(ps.map λp=>(p.1,a.eval p.2)) = (us.zipIdx k).map (λx=>(x.2,x.1))/\VRs σ (l.map (get s)) us
 | k,[],l,h=>by
  simp [rowOf] at h; subst h; exact ⟨[],rfl,.nil⟩
 | k,(i,x) :: ps,l,h=>by
  simp only [rowOf] at h
  split at h
  ·rename_i hi
   subst hi
   split at h
   ·rename_i y r e1 e2
    cases h
    obtain ⟨us,h1,h2⟩:=rowOf_sound hs e2; exact ⟨a.eval x :: us,by simp [h1],.cons (get_sound e1 hs) h2⟩
   ·cases h
  ·cases h
theorem cells_flat:∀ {xs:List AV} {us:List Value} {sz:Nat},VRs σ xs us->xs.all (λx=>shown x && (cellsAV x).length == sz) = true ->
 VRs σ (xs.map cellsAV).flatten (us.flatMap λv=>v.cells.toList)/\∀ v ∈ us,v.cells.size = sz
 | [],us,sz,h,_=>by
  have:=h.1; simp at this; have hu:us = []:=List.eq_nil_of_length_eq_zero this.symm; subst hu; exact ⟨.nil,λv hv=>by simp at hv⟩
 | x :: xs,us,sz,h,ha=>by
  obtain ⟨u,us',rfl,h1,h2⟩:=h.cons_inv; simp only [List.all_cons,Bool.and_eq_true,beq_iff_eq] at ha; have hv:=cellsAV_sound h1 ha.1.1; obtain ⟨h3,h4⟩:=cells_flat h2 ha.2; refine ⟨by simpa using hv.append h3,λv hv'=>?_⟩; rcases List.mem_cons.1 hv' with rfl | hv'
  ·have:=hv.1; simp at this; omega
  ·exact h4 v hv'
theorem run_buildSlice {t e:TypeId} {n sz:Nat} {z:List AV} {us:List Value} (ht:P.underlying t = some (.slice e)) (hz:szOf P e = some sz) (hzz:zeroOf P e = some z) (hzl:z.length = sz) (h0:0 < sz) (hn:us.length = n) (hbig:n * sz<=2 ^ 24)
 (hus:∀ v ∈ us,v.cells.size = sz) (ps:Array (Nat × Value)) (hps:ps.toList = (us.zipIdx 0).map λx=>(x.2,x.1)) (w:World) :
 (Instr.buildSlice t n ps).run P w = .ok (.slice (some ⟨w.heap.size,0,none⟩) n n) (w.alloc (.cells (us.flatMap λv=>v.cells.toList).toArray e)):=by
 obtain ⟨i,zv,hi,hzv,hv⟩:=zeroOf_spec hzz; have hzs:zv.cells.size = sz:=by have:=(hv ⟨λ_=>none,λ_ _=>none,[]⟩).1; simp at this; omega
 have hnb:¬ (2 ^ 24 < n * sz):=by omega
 have hfill:∀ cells:Array Value,cells.size = n * sz->Instr.fill (λi=>some (i * sz,sz)) cells ps.toList = some (us.flatMap λv=>v.cells.toList).toArray:=λcells hc=>by
  rw [hps]; exact Go.Great.fill_whole h0 us cells hus (by rw [hn,hc])
 by_cases hz0:n * sz = 0
 ·have hn0 : n = 0 := by
   rcases Nat.mul_eq_zero.1 hz0 with h | h
   ·exact h
   ·omega
  subst hn0; have:=hfill ((Array.range 0).map (λ_=>(default:Value))) (by simp); simp [Instr.buildSlice,run_underlying ht,szOf_run hz,this,newRow]
 ·have:=hfill ((Array.range (n * sz)).map (zv.cells[· % zv.cells.size]!)) (by simp)
  simp only [Instr.buildSlice,Sem.run_bind,run_underlying ht,Result.andThen_ok,szOf_run hz,gt_iff_lt,hnb,if_false,hz0,run_zeroValue hi hzv,Sem.run_pure,this,newRow,newObj,Sem.run,World.alloc]
end
section
variable {P:Program} {o:Oper} {a:Act} {σ:Sg} {H:List ABlk} {w:World} {s:List AV}
theorem flat_all {es:List (List Dat)} {l:List Nat} {sz:Nat} (h:es.map List.length = l) (hl:∀ n ∈ l,n = sz):∀ e ∈ es,e.length = sz:=λ_ he=>hl _ (h ▸ List.mem_map_of_mem he)
theorem flatMap_len {us:List Value} {sz:Nat} (h:∀ v ∈ us,v.cells.size = sz):(us.flatMap λv=>v.cells.toList).length = us.length * sz:=by
 induction us with
 | nil=>simp
 | cons v us ih =>
  rw [List.flatMap_cons,List.length_append,ih (λu hu=>h u (by simp [hu])),Array.length_toList,h v (by simp),List.length_cons,Nat.succ_mul]; omega
theorem ok_bs {t e:TypeId} {n sz:Nat} {z:List AV} {ps:Array (Nat × Operand)} {l:List Opd} {md:Md} {v:AV} {H':List ABlk} (ho:o.op = .buildSlice t n ps) (ht:P.underlying t = some (.slice e)) (hz:szOf P e = some sz) (hzz:zeroOf P e = some z)
 (hl:rowOf 0 ps.toList = some l) (hcond:l.length = n/\0 < sz/\z.length = sz/\n * sz<=2 ^ 24) (hs:SS σ s a) (h:HR σ H w) (hv:evK (.bs md e sz l) s H = some (v,H')):OpOk P o a σ H w v H':=by
 obtain ⟨hn,h0,hzl,hbig⟩:=hcond; obtain ⟨us,hps,hus⟩:=rowOf_sound hs hl; simp only [evK] at hv
 split at hv
 ·rename_i hall
  have hall':(l.map (get s)).all (λx=>shown x && (cellsAV x).length == sz) = true:=by simpa [List.all_map] using hall
  obtain ⟨hc,hsz⟩:=cells_flat hus hall'; have hul:us.length = n:=by rw [<- hn,<- hus.1]; simp
  have hmax:n<=maxLen:=by
   have:n<=n * sz:=Nat.le_mul_of_pos_right n h0; have h2:(2:Nat) ^ 24 = 16777216:=by decide
   simp only [maxLen]; omega
  have hr:=run_buildSlice (P:=P) ht hz hzz hzl h0 hul hbig hsz (ps.map λx=>(x.1,a.eval x.2)) (by simpa using hps) w; have hrun:(execOp a.eval o).run P w = .ok (.value (.slice (some ⟨w.heap.size,0,none⟩) n n)) (w.alloc (.cells (us.flatMap λv=>v.cells.toList).toArray e)):=by
   simp [execOp,ho,hr]
  have hmapmap:(l.map λp=>cellsAV (get s p)) = (l.map (get s)).map cellsAV:=by simp
  have lens:∀ x ∈ (l.map (get s)).map cellsAV,x.length = sz:=λx hx=>by
   obtain ⟨y,hy,rfl⟩:=List.mem_map.1 hx; have:=List.all_eq_true.1 hall' y hy; simp only [Bool.and_eq_true,beq_iff_eq] at this; exact this.2
  cases md with
  | im =>
   simp only at hv
   by_cases hemp:l.isEmpty = true
   ·rw [if_pos hemp] at hv
    cases hv
    have hn0:n = 0:=by rw [<- hn]; simpa using hemp
    subst hn0; obtain ⟨σ',x1,x2,x3,_⟩:=h.allocM e (us.flatMap λv=>v.cells.toList).toArray; exact ⟨σ',_,_,.inl hrun,x1,x2,.esl⟩
   rw [if_neg hemp] at hv
   split at hv
   ·rename_i es e1
    cases hv
    rw [hmapmap] at e1; obtain ⟨hd,hlen⟩:=datss_sound hc e1; have hes:∀ x ∈ es,x.length = sz:=flat_all hlen (λk hk=>by obtain ⟨x,hx,rfl⟩:=List.mem_map.1 hk; exact lens x hx); have hesl:es.length = n:=by have:=congrArg List.length hlen; simpa [hn] using this
    obtain ⟨σ',x1,x2,x3,_⟩:=h.allocM e (us.flatMap λv=>v.cells.toList).toArray; refine ⟨σ',_,_,.inl hrun,x1,x2,.d ?_⟩; have:=VD.of_cells (M:=σ'.M) hes ⟨w.heap.size,0,none⟩ n (by omega) hmax (hd.mono x1.le.M) (λj u hj=>by rw [addr_lit,Nat.zero_add]; exact x3 j u (by simpa using hj))
    rwa [hesl] at this
   ·cases hv
  | hp =>
   simp only at hv
   cases hv
   obtain ⟨σ',x1,x2,_,x4,x5⟩:=h.alloc e (vs:=(us.flatMap λv=>v.cells.toList).toArray) (by simpa [hmapmap] using hc); refine ⟨σ',_,_,.inl hrun,?_,?_,?_⟩
   ·simpa [hmapmap] using x1
   ·simpa [hmapmap] using x2
   ·rw [hn]; exact .hsl x4 x5 (by rw [List.size_toArray,flatMap_len hsz,hul]; omega) (Nat.le_refl _) (Nat.le_refl _) hmax
  | gr =>
   simp only at hv
   split at hv
   ·rename_i es e1
    cases hv
    rw [hmapmap] at e1; obtain ⟨hd,hlen⟩:=datss_sound hc e1; have hes:∀ x ∈ es,x.length = sz:=flat_all hlen (λk hk=>by obtain ⟨x,hx,rfl⟩:=List.mem_map.1 hk; exact lens x hx); have hesl:es.length = n:=by have:=congrArg List.length hlen; simpa [hn] using this
    by_cases hn0:n = 0
    ·have hes0:es = []:=List.eq_nil_of_length_eq_zero (by omega)
     subst hn0; subst hes0; obtain ⟨σ1,x1,x2,_⟩:=h.allocM e (us.flatMap λv=>v.cells.toList).toArray; obtain ⟨σ2,y1,y2,y3⟩:=x2.newRow0 (u:=.slice (some ⟨w.heap.size,0,none⟩) 0 0) e sz ⟨_,rfl⟩; exact ⟨σ2,_,_,.inl hrun,x1.trans y1,y2,y3⟩
    ·have hfl:=flatMap_len hsz
     obtain ⟨σ',x1,x2,x3,x4⟩:=h.rowAlloc (H':=H ++ [.row e sz es.length]) H.length es.length e sz es.length (us.flatMap λv=>v.cells.toList).toArray (us.flatMap λv=>v.cells.toList)
      (fun m _ => h.fresh _ _ (Nat.le_refl _)) (fun b hb => getElem?_concat_ne H _ hb) (by simp) (by simp) (by simp) (Nat.le_refl _) (by omega) (by omega) (by simp only [List.size_toArray]; rw [hfl, hul, hesl]) (by
        rw [List.take_of_length_le]; rw [hesl]; rw [hfl,hul]; exact Nat.le_refl _)
     refine ⟨σ',_,_,.inl hrun,x1,x2,.gsl (by rw [x3,hesl]) hes ?_⟩; have:=VD.of_cells (M:=σ'.M) hes ⟨w.heap.size,0,none⟩ n (by omega) hmax (hd.mono x1.le.M) (λj u hj=>by rw [addr_lit,Nat.zero_add]; exact x4 j u hj)
     rwa [hesl] at this
   ·cases hv
 ·cases hv
theorem VD.one {M:Mem} {d:Dat} {u:Value} (h:VD M d u):u.oneCell' = true:=by
 cases h with
 | v h=>cases u <;> first | rfl | cases h
 | nil=>rfl
 | sl=>rfl
theorem VDs.one {M:Mem} {ds:List Dat} {us:List Value} (h:VDs M ds us):∀ u ∈ us,u.oneCell' = true:=λu hu=>by
 obtain ⟨i,hi,rfl⟩:=List.mem_iff_getElem.1 hu; have hi':i < ds.length:=by rw [h.1]; exact hi
 exact (h.2 i _ _ (gEe hi') (gEe hi)).one
theorem toDats_map_d:∀ (e:List Dat),toDats (e.map .d) = some e
 | []=>rfl
 | d :: e=>by simp [toDats,toDat,toDats_map_d e]
theorem datss_map_d:∀ (es:List (List Dat)),datss (es.map (·.map .d)) = some es
 | []=>rfl
 | e :: es=>by simp only [List.map_cons,datss,toDats_map_d e,datss_map_d es]
theorem chunks_flat {α:Type} (cs:List α) (off sz:Nat):∀ n,off + n * sz<=cs.length->((List.range n).map λi=>(cs.drop (off + i * sz)).take sz).flatten = (cs.drop off).take (n * sz)
 | 0,_=>by simp
 | n + 1,h=>by
  have hle:off + n * sz<=cs.length:=by rw [Nat.succ_mul] at h; omega
  rw [List.range_succ,List.map_append,List.flatten_append,chunks_flat cs off sz n hle]; simp only [List.map_cons,List.map_nil,List.flatten_cons,List.flatten_nil,List.append_nil]; rw [Nat.succ_mul,List.take_add,List.drop_drop]
theorem VDs.toVRs {σ:Sg} {ds:List Dat} {us:List Value} (h:VDs σ.M ds us):VRs σ (ds.map .d) us:=by
 refine ⟨by simp [h.1],λi c u h1 h2=>?_⟩; rw [List.getElem?_map,Option.map_eq_some_iff] at h1; obtain ⟨d,hd,rfl⟩:=h1; exact .d (h.2 i d u hd h2)
theorem map_d_flat (es:List (List Dat)):(es.map (·.map AV.d)).flatten = es.flatten.map AV.d:=by rw [List.map_flatten]
theorem src_sound {tx:TypeId} {sz:Nat} {x:AV} {u:Value} {xs:List (List AV)} {es:List (List Dat)} (hk:(elOf P tx).isSome = true\/P.underlying tx = some .string) (h:HR σ H w) (hx:VR σ x u) (he:elemsA H sz x = some xs) (hd:datss xs = some es) :
 ∃ news,Src P sz tx u es.length news w/\VDs σ.M es.flatten news/\(∀ e ∈ es,e.length = sz)/\VRs σ xs.flatten news:=by
 have hk':(∃ e',P.underlying tx = some (.slice e'))\/P.underlying tx = some .string:=by
  rcases hk with hk | hk
  ·left
   obtain ⟨e,he⟩:=Option.isSome_iff_exists.1 hk
   unfold elOf at he
   simp only [Option.bind_eq_some_iff] at he; obtain ⟨d,hd,he⟩:=he
   split at he
   ·cases he; exact ⟨_,hd⟩
   ·cases he
  ·exact .inr hk
 have slice:∀ (ad:Option Addr) (n c:Nat) (news:List Value),u = .slice ad n c->news.length = n * sz->(0 < n->∃ p,ad = some p/\∀ j v,news[j]? = some v->w.cell? (p.add j) = some v)->(∀ v ∈ news,v.oneCell' = true)->Src P sz tx u n news w:=by
  intro ad n c news hu hl hc h1
  subst hu; rcases ad with _ | p
  ·have hn : n = 0 := by
    rcases Nat.eq_zero_or_pos n with e | e
    ·exact e
    ·obtain ⟨p,hp,_⟩:=hc e; cases hp
   subst hn; have hnn:news = []:=List.eq_nil_of_length_eq_zero (by simpa using hl); subst hnn; exact ⟨hk',λ_=>rfl,by simp [Builtin.firstCells],by simp [Builtin.firstCells],by simp,λ_ h=>by cases h⟩
  ·have hcells : ∀ j v, news[j]? = some v -> w.cell? (p.add j) = some v := by
    intro j v hj
    rcases Nat.eq_zero_or_pos n with e | e
    ·subst e
     have hnn:news = []:=List.eq_nil_of_length_eq_zero (by simpa using hl); subst hnn; simp at hj
    ·obtain ⟨p',hp,hc'⟩:=hc e
     cases hp
     exact hc' j v hj
   exact ⟨hk',λ_=>rfl,run_firstCells_some w sz n p n c news hl hcells,run_firstCells_some w.drew sz n p n c news hl (by simpa using hcells),hl,h1⟩
 have data:∀ es':List (List Dat),VD σ.M (.sl es') u->(∀ e ∈ es',e.length = sz)->∃ news,Src P sz tx u es'.length news w/\VDs σ.M es'.flatten news/\(∀ e ∈ es',e.length = sz)/\VRs σ (es'.map (·.map AV.d)).flatten news:=by
  intro es' hv hz
  rcases hv.to_cells with rfl | ⟨ad,cap,sz',us,rfl,hc1,_,hz',hus,hM⟩
  ·obtain ⟨ad,c,hu,_⟩:=hv.sl_cells
   exact ⟨[],slice ad 0 c [] hu (by simp) (λh=>absurd h (by omega)) (λ_ h=>by cases h),⟨rfl,λi d v hi=>by simp at hi⟩,hz,.nil⟩
  ·refine ⟨us,slice _ _ cap us rfl ?_ (λ_=>⟨ad,rfl,λj v hj=>h.mem _ _ (hM j v hj)⟩) hus.one,hus,hz,by rw [map_d_flat]; exact hus.toVRs⟩
   rw [<- hus.1,flat_len hz]
 unfold elemsA at he
 split at he
 ·rename_i es'
  split at he
  ·rename_i hall
   cases he
   rw [datss_map_d] at hd; cases hd
   cases hx with
   | d hv=>exact data es hv (λe he=>by simpa using List.all_eq_true.1 hall e he)
  ·cases he
 ·rename_i b sz' es'
  split at he
  ·rename_i hz
   subst hz
   cases he
   rw [datss_map_d] at hd; cases hd
   cases hx with
   | gsl _ hz hv=>exact data es hv hz
  ·cases he
 ·cases he
  simp [datss] at hd; subst hd; obtain ⟨ad,rfl⟩:=hx.esl_inv; exact data [] .nil (λ_ h=>by cases h)
 ·rename_i b off n cap sz'
  split at he
  ·rename_i cs hb
   split at he
   ·rename_i hc
    obtain ⟨hle,rfl⟩:=hc
    cases he
    cases hx with
    | hsl0 _ =>
     simp [datss] at hd; subst hd; exact data [] .nil (λ_ h=>by cases h)
    | hsl hφ hN hoN hnc hcc hcm =>
     rename_i g cap' N
     obtain ⟨vs,t,h1,h2,h3,h4⟩:=h.cellsAt hb hφ; have hcl:=h3.1; have hflat:=chunks_flat cs off sz' n hle; have hvr:VRs σ ((List.range n).map λi=>(cs.drop (off + i * sz')).take sz').flatten ((vs.toList.drop off).take (n * sz')):=by
      rw [hflat]; have h3':=(h3.drop off).take (n * sz'); rw [List.drop_take,List.take_take,Nat.min_eq_left (by omega)] at h3'; exact h3'
     obtain ⟨hds,hlen⟩:=datss_sound hvr hd; have hesl:es.length = n:=by have:=congrArg List.length hlen; simpa using this
     have hz:∀ e ∈ es,e.length = sz':=flat_all hlen (λk hk=>by
      obtain ⟨x,hx,rfl⟩:=List.mem_map.1 hk; obtain ⟨i,hi,rfl⟩:=List.mem_map.1 hx; have hi':i < n:=by simpa using hi
      have:(i + 1) * sz'<=n * sz':=Nat.mul_le_mul_right _ hi'; rw [Nat.succ_mul] at this
      simp; omega)
     refine ⟨_,slice _ es.length cap' ((vs.toList.drop off).take (n * sz')) (by rw [hesl]) ?_ (λ_=>⟨_,rfl,λj v hj=>?_⟩) hds.one,hds,hz,hvr⟩
     ·rw [<- hds.1,flat_len hz]
     ·rw [List.getElem?_take] at hj
      split at hj
      ·rw [List.getElem?_drop] at hj
       rw [addr_lit]; simp only [World.cell?,h2]
       simpa using hj
      ·cases hj
   ·cases he
  ·cases he
 ·rename_i b
  split at he
  ·rename_i hz
   subst hz
   cases he
   have hu:=hx.str_inv; subst hu; have hes:es = b.data.toList.map λc=>[Dat.v (.int .u8 c.toNat)]:=by
    have:(b.data.toList.map λc=>[AV.d (.v (.int .u8 c.toNat))]) = (b.data.toList.map λc=>[Dat.v (.int .u8 c.toNat)]).map (·.map .d):=by simp
    rw [this,datss_map_d] at hd; exact (Option.some.inj hd).symm
   subst hes
   suffices hh:Src P 1 tx (.string b) (b.data.toList.map λc=>[Dat.v (.int .u8 c.toNat)]).length (byteCells b) w/\VDs σ.M (b.data.toList.map λc=>[Dat.v (.int .u8 c.toNat)]).flatten (byteCells b)/\(∀ e ∈ (b.data.toList.map λc=>[Dat.v (.int .u8 c.toNat)]),e.length = 1) by
    refine ⟨byteCells b,hh.1,hh.2.1,hh.2.2,?_⟩; have:=hh.2.1.toVRs; rw [<- map_d_flat,List.map_map] at this; exact this
   refine ⟨?_,?_,?_⟩
   ·have hl : (b.data.toList.map fun c => [Dat.v (.int .u8 c.toNat)]).length = b.size := by
     rw [lnn,Array.length_toList]; rfl
    rw [hl]; exact ⟨hk',λ_=>rfl,firstCells_string b w,firstCells_string b w.drew,by rw [byteCells_length,Nat.mul_one],λu hu=>by
     obtain ⟨_,_,rfl⟩:=List.mem_map.1 hu
     rfl⟩
   ·have hf : (b.data.toList.map fun c => [Dat.v (.int .u8 c.toNat)]).flatten = b.data.toList.map fun c => Dat.v (.int .u8 c.toNat) := by
     induction b.data.toList with
     | nil=>rfl
     | cons c l ih=>simp [ih]
    rw [hf]; refine ⟨by simp [byteCells],λi d u h1 h2=>?_⟩; simp only [byteCells,List.getElem?_map,Option.map_eq_some_iff] at h1 h2; obtain ⟨c,hc,rfl⟩:=h1; obtain ⟨c',hc',rfl⟩:=h2; rw [hc] at hc'; cases hc'; exact .v rfl
   ·intro e he
    obtain ⟨c,_,rfl⟩:=List.mem_map.1 he
    rfl
  ·cases he
 ·cases he
theorem src_sound2 {tx:TypeId} {sz:Nat} {x:AV} {u:Value} {xs:List (List AV)} (hk:(elOf P tx).isSome = true\/P.underlying tx = some .string) (h:HR σ H w) (hx:VR σ x u) (he:elemsA H sz x = some xs) (hd:datss xs = none) (ho:xs.flatten.all one = true) :
 ∃ news,Src P sz tx u xs.length news w/\VRs σ xs.flatten news:=by
 have hk':(∃ e',P.underlying tx = some (.slice e'))\/P.underlying tx = some .string:=by
  rcases hk with hk | hk
  ·left
   obtain ⟨e,he⟩:=Option.isSome_iff_exists.1 hk
   unfold elOf at he
   simp only [Option.bind_eq_some_iff] at he; obtain ⟨d,hd,he⟩:=he
   split at he
   ·cases he; exact ⟨_,hd⟩
   ·cases he
  ·exact .inr hk
 unfold elemsA at he
 split at he
 ·split at he
  ·cases he
   rw [datss_map_d] at hd; cases hd
  ·cases he
 ·split at he
  ·cases he
   rw [datss_map_d] at hd; cases hd
  ·cases he
 ·cases he
  cases hd
 ·rename_i b off n cap sz'
  split at he
  ·rename_i cs hb
   split at he
   ·rename_i hc
    obtain ⟨hle,rfl⟩:=hc
    cases he
    cases hx with
    | hsl0 _=>cases hd
    | hsl hφ hN hoN hnc hcc hcm =>
     rename_i g cap' N
     obtain ⟨vs,t,h1,h2,h3,h4⟩:=h.cellsAt hb hφ; have hcl:=h3.1; have hflat:=chunks_flat cs off sz' n hle; have hvr:VRs σ ((List.range n).map λi=>(cs.drop (off + i * sz')).take sz').flatten ((vs.toList.drop off).take (n * sz')):=by
      rw [hflat]; have h3':=(h3.drop off).take (n * sz'); rw [List.drop_take,List.take_take,Nat.min_eq_left (by omega)] at h3'; exact h3'
     refine ⟨(vs.toList.drop off).take (n * sz'),?_,hvr⟩; have hl:((vs.toList.drop off).take (n * sz')).length = n * sz':=by rw [<- hvr.1,hflat]; simp; omega
     have hcells:∀ j v,((vs.toList.drop off).take (n * sz'))[j]? = some v->w.cell? ((⟨g,off,none⟩:Addr).add j) = some v:=λj v hj=>by
      rw [List.getElem?_take] at hj
      split at hj
      ·rw [List.getElem?_drop] at hj
       rw [addr_lit]; simp only [World.cell?,h2]
       simpa using hj
      ·cases hj
     rw [lnn,List.length_range]; refine ⟨hk',λ_=>rfl,run_firstCells_some w sz' n ⟨g,off,none⟩ n cap' _ hl hcells,run_firstCells_some w.drew sz' n ⟨g,off,none⟩ n cap' _ hl (by simpa using hcells),hl,λv hv=>?_⟩; obtain ⟨i,hi,rfl⟩:=List.mem_iff_getElem.1 hv; have hi':i < ((List.range n).map λi=>(cs.drop (off + i * sz')).take sz').flatten.length:=by rw [hvr.1]; exact hi
     exact all_one (hvr.2 i _ _ (gEe hi') (gEe hi)) (List.all_eq_true.1 ho _ (List.getElem_mem hi'))
   ·cases he
  ·cases he
 ·split at he
  ·cases he
   rename_i b _
   have:(b.data.toList.map λc=>[AV.d (.v (.int .u8 c.toNat))]) = (b.data.toList.map λc=>[Dat.v (.int .u8 c.toNat)]).map (·.map .d):=by simp
   rw [this,datss_map_d] at hd
   cases hd
  ·cases he
 ·cases he
end
section
variable {P:Program} {o:Oper} {a:Act} {σ:Sg} {H:List ABlk} {w:World} {s:List AV}
theorem run_append_zero {t tx ty e:TypeId} {i:TypeInfo} (ht:P.underlying t = some (.slice e)) (hi:P.info? e = some i) (base:Option Addr) (n c:Nat) (hnc:n<=c) (x:Value) (hs:Src P i.size tx x 0 [] w) :
 (Builtin.append_ #[t,tx] ty #[.slice base n c,x]).run P w = .ok (.slice base n c) w:=by
 rcases hs.kind with ⟨e',hk⟩ | hk <;> cases base <;> simp [Builtin.append_,run_underlying ht,run_underlying hk,sizeOf,typeInfo,hi,hs.len,hnc,hs.cells,storeCells]
theorem info_of {e:TypeId} {sz by':Nat} {z:List AV} (hz:szOf P e = some sz) (hb:byOf P e = some by') (hzz:zeroOf P e = some z) (hzl:z.length = sz) :
 ∃ i zv,P.info? e = some i/\i.size = sz/\i.bytes = by'/\i.zero = some zv/\zv.cells.size = sz:=by
 obtain ⟨i,zv,hi,hzv,hv⟩:=zeroOf_spec hzz; refine ⟨i,zv,hi,?_,?_,hzv,?_⟩
 ·simpa [szOf,hi] using hz
 ·simpa [byOf,hi] using hb
 ·have:=(hv ⟨λ_=>none,λ_ _=>none,[]⟩).1; simp at this; omega
theorem grown_size {z:Value} {sz n m cap:Nat} {olds news:List Value} (hz:z.cells.size = sz) (ho:olds.length = n * sz) (hn:news.length = m * sz) (hc:n + m<=cap) :
 ((olds ++ news).toArray ++ Builtin.zeroCells z.cells (cap - (n + m))).size = cap * sz:=by
 simp only [Array.size_append,List.size_toArray,List.length_append,size_zeroCells,hz,ho,hn]; rw [<- Nat.add_mul,<- Nat.add_mul,Nat.add_sub_cancel' hc]
theorem grown_take {z:Value} {sz n m:Nat} {olds news:List Value} (k:Nat) (ho:olds.length = n * sz) (hn:news.length = m * sz) :
 ((olds ++ news).toArray ++ Builtin.zeroCells z.cells k).toList.take ((n + m) * sz) = olds ++ news:=by
 have hl:(olds ++ news).length = (n + m) * sz:=by rw [List.length_append,ho,hn,Nat.add_mul]
 rw [Array.toList_append,<- hl]; exact List.take_left
theorem append_nil {t tx ty e:TypeId} {sz by':Nat} {z:List AV} {es:List (List Dat)} {x:Value} {news:List Value} {base:Option Addr} (md:Md) (ht:P.underlying t = some (.slice e)) (hz:szOf P e = some sz) (hb:byOf P e = some by') (hzz:zeroOf P e = some z) (hzl:z.length = sz)
 (h0:0 < sz) (h:HR σ H w) (hs:Src P sz tx x es.length news w) (hd:VDs σ.M es.flatten news) (hes:∀ e ∈ es,e.length = sz) (hbytes:es.length * by'<=140737488355328) (hmax:es.length<=maxLen) :
 ∃ v w',(Builtin.append_ #[t,tx] ty #[.slice base 0 0,x]).run P w = .ok v w' /\
  (md = .im->∃ σ',Ext σ H w σ' H w'/\HR σ' H w'/\VR σ' (.d (.sl es)) v) /\
  (md ≠ .im->∃ σ',Ext σ H w σ' (H ++ [.row e sz es.length]) w'/\HR σ' (H ++ [.row e sz es.length]) w'/\VR σ' (.gsl H.length sz es) v):=by
 obtain ⟨i,zv,hi,hisz,hiby,hzv,hzs⟩:=info_of hz hb hzz hzl; subst hisz; subst hiby
 by_cases hn0:es.length = 0
 ·have hes0:es = []:=List.eq_nil_of_length_eq_zero hn0
  subst hes0; have hnn:news = []:=List.eq_nil_of_length_eq_zero (by simpa using hs.newsLen); subst hnn; refine ⟨_,w,run_append_zero ht hi base 0 0 (Nat.le_refl _) x hs,λ_=>⟨σ,.refl ..,h,.d .nil⟩,λ_=>?_⟩; obtain ⟨σ2,y1,y2,y3⟩:=h.newRow0 (u:=.slice base 0 0) e i.size ⟨_,rfl⟩; exact ⟨σ2,y1,y2,y3⟩
 ·have hm63:((0 + es.length:Nat):Int)<=9223372036854775807:=by simp only [maxLen] at hmax; omega
  have hr:=run_append_grow_src (P:=P) w t tx ty e i zv ht hi hzv base 0 0 [] (by cases base <;> simp [Builtin.firstCells,loadCells,loadCellsFrom]) x es.length news hs (by omega) hm63 (growslice_fits (by omega) (by rw [Nat.zero_add]; exact hbytes)); have hge:=grownCap_ge w (0 + es.length) 0 e; have hcm:grownCap w (0 + es.length) 0 e<=maxLen:=grownCap_le_maxLen w (0 + es.length) 0 e (by omega); have hnl:=hs.newsLen; have hgs:=grown_size (sz:=i.size) (n:=0) (m:=es.length) (olds:=[]) (news:=news) hzs (by simp) hnl hge; have hgt:=grown_take (z:=zv) (sz:=i.size) (n:=0) (m:=es.length) (olds:=[]) (news:=news) (grownCap w (0 + es.length) 0 e - (0 + es.length)) (by simp) hnl; simp only [List.nil_append,Nat.zero_add] at hr hge hcm hgs hgt; refine ⟨_,_,hr,λ_=>?_,λ_=>?_⟩
  ·obtain ⟨σ',x1,x2,x3,_⟩:=h.drew.allocM e (news.toArray ++ Builtin.zeroCells zv.cells (grownCap w es.length 0 e - es.length))
   refine ⟨σ',(Ext.drew ..).trans x1,x2,.d ?_⟩; refine VD.of_cells (M:=σ'.M) hes ⟨w.heap.size,0,none⟩ _ hge hcm (hd.mono x1.le.M) (λj u hj=>?_); rw [addr_lit,Nat.zero_add]; refine x3 j u ?_; rw [<- hgt,List.getElem?_take] at hj
   split at hj
   ·rw [<- Array.getElem?_toList]; exact hj
   ·cases hj
  ·obtain ⟨σ', x1, x2, x3, x4⟩ := h.drew.rowAlloc (H' := H ++ [.row e i.size es.length]) H.length es.length e i.size (grownCap w es.length 0 e) (news.toArray ++ Builtin.zeroCells zv.cells (grownCap w es.length 0 e - es.length)) news
    (λm _=>h.fresh _ _ (Nat.le_refl _)) (λb hb=>getElem?_concat_ne H _ hb) (by simp) (by simp) (by simp) hge (by omega) hcm hgs hgt
   refine ⟨σ',(Ext.drew ..).trans x1,x2,.gsl x3 hes ?_⟩; exact VD.of_cells (M:=σ'.M) hes ⟨w.heap.size,0,none⟩ _ hge hcm (hd.mono x1.le.M) (λj u hj=>by rw [addr_lit,Nat.zero_add]; exact x4 j u hj)
theorem setCells_setRow {g:Nat} {cur:Array Value} {e:TypeId} {k:Nat} {news:List Value} (P:Program) (hg:w.heap[g]? = some (.cells cur e (0,0))) (hfit:k + news.length<=cur.size) (h1:∀ u ∈ news,u.oneCell' = true) :
 w.setCells g k news = w.setRow g (cur.toList.take k ++ news ++ cur.toList.drop (k + news.length)).toArray:=by
 have r1:=run_storeCells_cells (P:=P) g k news 0 w (λj hj=>by simp only [World.cell?,hg]; simp; omega) (λj hj=>by simp only [World.frozen?,hg]; simp) h1; have r2:=run_storeCells_at (P:=P) g k e news 0 cur w hg (by omega) h1; rw [r1] at r2; simp only [Nat.add_zero] at r2
 injection r2
theorem set_self {b:Nat} {k:ABlk} (h:H[b]? = some k):H.set b k = H:=by
 apply List.ext_getElem?
 intro i
 rw [List.getElem?_set]
 split
 ·rename_i e; subst e
  split
  ·exact h.symm
  ·rename_i hlt; rw [List.getElem?_eq_none (by omega)] at h; cases h
 ·rfl
theorem append_row {t tx ty e:TypeId} {sz by' b:Nat} {z:List AV} {es old:List (List Dat)} {x u0:Value} {news:List Value} (ht:P.underlying t = some (.slice e)) (hz:szOf P e = some sz) (hb:byOf P e = some by') (hzz:zeroOf P e = some z) (hzl:z.length = sz)
 (h0:0 < sz) (h:HR σ H w) (hH:H[b]? = some (.row e sz old.length)) (hu:VR σ (.gsl b sz old) u0) (hs:Src P sz tx x es.length news w) (hd:VDs σ.M es.flatten news) (hes:∀ e ∈ es,e.length = sz)
 (hbytes:(old.length + es.length) * by'<=140737488355328) (hmax:old.length + es.length<=maxLen) :
 ∃ v w' σ',(Builtin.append_ #[t,tx] ty #[u0,x]).run P w = .ok v w'/\Ext σ H w σ' (H.set b (.row e sz (old.length + es.length))) w'/\HR σ' (H.set b (.row e sz (old.length + es.length))) w'/\VR σ' (.gsl b sz (old ++ es)) v:=by
 obtain ⟨i,zv,hi,hisz,hiby,hzv,hzs⟩:=info_of hz hb hzz hzl; subst hisz; subst hiby
 cases hu with
 | gsl hφ hoz hov =>
 have hlt:b < H.length:=by
  rcases Nat.lt_or_ge b H.length with hl | hl
  ·exact hl
  ·rw [List.getElem?_eq_none hl] at hH; cases hH
 have hset:∀ b',b' ≠ b->(H.set b (.row e i.size (old.length + es.length)))[b']? = H[b']?:=λb' hne=>by rw [List.getElem?_set_ne (Ne.symm hne)]
 have hset0:(H.set b (.row e i.size (old.length + es.length)))[b]? = some (.row e i.size (old.length + es.length)):=by simp [hlt]
 obtain ⟨v0,xs,g1,g2,g3,g4⟩:=h.blk b _ hH; rw [hφ] at g1; cases g1; have hall:∀ e ∈ old ++ es,e.length = i.size:=λe he=>by
  rcases List.mem_append.1 he with he | he
  ·exact hoz e he
  ·exact hes e he
 by_cases hn0:es.length = 0
 ·have hes0:es = []:=List.eq_nil_of_length_eq_zero hn0
  subst hes0; have hnn:news = []:=List.eq_nil_of_length_eq_zero (by simpa using hs.newsLen); subst hnn; obtain ⟨ad,cap,hu0,_,hcap⟩:=hov.sl_cells; have hnc:old.length<=cap\/old = []:=by
   by_cases e:old = []
   ·exact .inr e
   ·exact .inl (hcap e).1
  have hnc':old.length<=cap:=by
   rcases hnc with e | e
   ·exact e
   ·subst e; simp
  refine ⟨u0,w,σ,?_,?_,?_,?_⟩
  ·rw [hu0]; exact run_append_zero ht hi ad _ cap hnc' x hs
  ·simp only [List.length_nil,Nat.add_zero,set_self hH]; exact .refl ..
  ·simp only [List.length_nil,Nat.add_zero,set_self hH]; exact h
  ·simp only [List.append_nil]; exact .gsl hφ hoz hov
 ·have hnl:=hs.newsLen
  have hm63:((old.length + es.length:Nat):Int)<=9223372036854775807:=by simp only [maxLen] at hmax; omega
  -- what a new row leaves, whatever was there before
  have grow:∀ (base:Option Addr) (cap:Nat) (olds:List Value),u0 = .slice base old.length cap->cap < old.length + es.length->olds.length = old.length * i.size->VDs σ.M old.flatten olds ->
   (Builtin.firstCells i.size old.length (.slice base old.length cap)).run P w.drew = .ok olds.toArray w.drew ->
   ∃ v w' σ',(Builtin.append_ #[t,tx] ty #[u0,x]).run P w = .ok v w'/\Ext σ H w σ' (H.set b (.row e i.size (old.length + es.length))) w'/\HR σ' (H.set b (.row e i.size (old.length + es.length))) w'/\VR σ' (.gsl b i.size (old ++ es)) v:=by
   intro base cap olds hu0 hg hol hod hfc
   have hr:=run_append_grow_src (P:=P) w t tx ty e i zv ht hi hzv base old.length cap olds hfc x es.length news hs hg hm63 (growslice_fits hg hbytes); have hge:=grownCap_ge w (old.length + es.length) cap e; have hcm:grownCap w (old.length + es.length) cap e<=maxLen:=grownCap_le_maxLen w _ cap e hmax; have hgs:=grown_size (z:=zv) hzs hol hnl hge; have hgt:=grown_take (z:=zv) (grownCap w (old.length + es.length) cap e - (old.length + es.length)) hol hnl; obtain ⟨σ',x1,x2,x3,x4⟩:=h.drew.rowAlloc (H':=H.set b (.row e i.size (old.length + es.length))) b (old.length + es.length) e i.size (grownCap w (old.length + es.length) cap e) _ _
    (λm hm=>g3 m (by omega)) hset hset0 (by simp) (by rw [hH]; simp) hge (by omega) hcm hgs hgt
   refine ⟨_,_,σ',by rw [hu0]; exact hr,(Ext.drew ..).trans x1,x2,.gsl (by rw [List.length_append]; exact x3) hall ?_⟩; have:=VD.of_cells (M:=σ'.M) (es:=old ++ es) hall ⟨w.heap.size,0,none⟩ (grownCap w (old.length + es.length) cap e) (by rw [List.length_append]; exact hge) hcm (by rw [List.flatten_append]; exact (hod.append hd).mono x1.le.M) (λj u hj=>by rw [addr_lit,Nat.zero_add]; exact x4 j u hj)
   rwa [List.length_append] at this
  rcases g2 with ⟨hn,hxs,ad,rfl⟩ | ⟨g,cap,cur,hcap,hu0,hg,hnc,hcm,hsz,htake⟩
  ·have hold:old = []:=List.eq_nil_of_length_eq_zero hn
   subst hold; exact grow ad 0 [] rfl (by simp; omega) (by simp) ⟨rfl,λi d u h=>by simp at h⟩ (by cases ad <;> simp [Builtin.firstCells,loadCells,loadCellsFrom])
  ·subst hu0
   obtain ⟨g5,g6⟩:=g4 g (by simp [conc]; omega); have hxl:xs.length = old.length * i.size:=by
    have hcl:cur.toList.length = cap * i.size:=by rw [<- hsz]; exact Array.length_toList
    rw [<- htake,List.length_take,hcl]; exact Nat.min_eq_left (Nat.mul_le_mul_right _ hnc)
   have hxd:VDs σ.M old.flatten xs:=by
    rcases hov.to_cells with rfl | ⟨ad',cap',sz',us,hu',_,_,hz',hus,hM⟩
    ·have:xs = []:=List.eq_nil_of_length_eq_zero (by simpa using hxl)
     subst this; exact ⟨rfl,λi d u h=>by simp at h⟩
    ·injection hu' with hu' _ _
     injection hu' with hu'
     subst hu'; have hul:us.length = xs.length:=by rw [<- hus.1,hxl,flat_len hoz]
     have:us = xs:=by
      apply List.ext_getElem?
      intro j
      by_cases hj:j < us.length
      ·have h1:=hM j us[j] (gEe hj)
       have h2:=g5 j (xs[j]'(by omega)) (gEe (by omega)); rw [addr_lit,Nat.zero_add,h2] at h1; rw [gEe hj,gEe (by omega)]; exact h1.symm
      ·rw [List.getElem?_eq_none (by omega),List.getElem?_eq_none (by omega)]
     rw [<- this]; exact hus
   by_cases hroom:old.length + es.length<=cap
   ·have hfit:old.length * i.size + news.length<=cur.size:=by rw [hnl,hsz,<- Nat.add_mul]; exact Nat.mul_le_mul_right _ hroom
    have hr:=run_append_room_src (P:=P) w t tx ty e i ht hi g 0 old.length cap x es.length news hs hroom (λj hj=>by simp only [World.cell?,hg]; simp; omega) (λj hj=>by simp only [World.frozen?,hg]; simp); rw [Nat.zero_add,setCells_setRow P hg hfit hs.one] at hr; obtain ⟨σ',x1,x2,x3,x4⟩:=h.rowRoom b e i.size old.length es.length g cap cur news hH hφ hcap hg hroom hcm hsz (by omega) hnl; refine ⟨_,_,σ',hr,x1,x2,.gsl (by rw [List.length_append]; exact x3) hall ?_⟩; have:=VD.of_cells (M:=σ'.M) (es:=old ++ es) hall ⟨g,0,none⟩ cap (by rw [List.length_append]; exact hroom) hcm (by rw [List.flatten_append]; exact (hxd.append hd).mono x1.le.M) (λj u hj=>by
     rw [addr_lit,Nat.zero_add]; rw [<- htake] at hj; exact x4 j u hj)
    rwa [List.length_append] at this
   ·refine grow (some ⟨g,0,none⟩) cap xs rfl (by omega) hxl hxd ?_
    have:=run_firstCells_some (P:=P) w.drew i.size old.length ⟨g,0,none⟩ old.length cap xs hxl (λj v hj=>by
     rw [addr_lit,Nat.zero_add]; exact h.mem _ _ (g5 j v hj))
    exact this
end
end Go.Proofs.YtofpekbidngnfaaGreatDoor
