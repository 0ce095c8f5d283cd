/-
  One's own library, part 5h: make, copy, conversions, an append that moves.
-/
import Derived.Test.YtofpekbidngnfaaGreatDoorYSnd7
import Derived.Laws.IdiomStrings
set_option linter.unusedSectionVars false
set_option linter.unusedSimpArgs false
set_option linter.unusedVariables false
namespace Go.Proofs.YtofpekbidngnfaaGreatDoor
open Go.RowKit
section
variable {P:Program} {o:Oper} {a:Act} {σ:Sg} {H:List ABlk} {w:World} {s:List AV}
theorem mod_add_size {n k sz:Nat} (h:k < sz):(n * sz + k) % sz = k:=by
 rw [Nat.add_comm,Nat.add_mul_mod_self_right,Nat.mod_eq_of_lt h]
theorem madeCells_list (z:Array Value):∀ n:Nat,(madeCells z (n * z.size)).toList = (List.replicate n z.toList).flatten
 | 0=>by simp [madeCells]
 | n + 1=>by
  have ih:=madeCells_list z n
  unfold madeCells at ih ⊢
  rw [Array.toList_map,Array.toList_range] at ih ⊢; rw [List.replicate_succ',List.flatten_append,<- ih,Nat.succ_mul,List.range_add,List.map_append]
  congr 1
  rw [List.map_map]
  apply List.ext_getElem?
  intro i
  rw [List.getElem?_map]
  by_cases hi:i < z.size
  ·rw [List.getElem?_range hi]
   simp [mod_add_size hi,hi]
  ·rw [List.getElem?_eq_none (by simp; omega),List.getElem?_eq_none (by simp; omega)]; rfl
theorem VRs.flatten_replicate {z:List AV} {us:List Value} (h:VRs σ z us):∀ n:Nat,VRs σ (List.replicate n z).flatten (List.replicate n us).flatten
 | 0=>.nil
 | n + 1=>by
  rw [List.replicate_succ,List.replicate_succ,List.flatten_cons,List.flatten_cons]; exact h.append (h.flatten_replicate n)
theorem ok_mks {t e:TypeId} {x y:Operand} {x' y':Opd} {sz by':Nat} {z:List AV} {md:Md} {v:AV} {H':List ABlk} (ho:o.op = .makeSlice t x y) (ht:P.underlying t = some (.slice e)) (hz:szOf P e = some sz) (hb:byOf P e = some by') (hzz:zeroOf P e = some z) (hzl:z.length = sz)
 (h0:0 < sz) (hb0:0 < by') (hx:opd x = some x') (hy:opd y = some y') (hs:SS σ s a) (h:HR σ H w) (hv:evK (.mks md e sz by' z x' y') s H = some (v,H')):OpOk P o a σ H w v H':=by
 have h1:=get_sound hx hs; have h2:=get_sound hy hs; simp only [evK] at hv
 split at hv
 ·rename_i k1 l k2 m e1 e2
  rw [e1] at h1; rw [e2] at h2
  split at hv
  ·rename_i hc
   obtain ⟨c1,c2,c3,c4⟩:=hc
   cases hv
   obtain ⟨i,zv,hi,hzv,hvz⟩:=zeroOf_spec hzz; have hzs:zv.cells.size = sz:=by have:=(hvz ⟨λ_=>none,λ_ _=>none,[]⟩).1; simp at this; omega
   have hisz:i.size = sz:=by simpa [szOf,hi] using hz
   have hiby:i.bytes = by':=by simpa [byOf,hi] using hb
   have hm:m<=140737488355328:=by
    have:m.toNat * 1<=m.toNat * by':=Nat.mul_le_mul_left _ hb0
    omega
   have n1:¬ m < 0:=by omega
   have hmb:(by':Int) * m<=140737488355328:=by
    have:((m.toNat * by':Nat):Int)<=140737488355328:=by omega
    rw [Int.natCast_mul,Int.toNat_of_nonneg (by omega),Int.mul_comm] at this; exact this
   have hr:=run_make (P:=P) w t e i zv ht hi hzv k1 k2 l m c1 c2 (by rw [hiby]; omega) (by omega); have hcells:madeCells zv.cells (m.toNat * i.size) = (List.replicate m.toNat zv.cells.toList).flatten.toArray:=by
    rw [hisz,<- hzs,<- madeCells_list]
   rw [hcells] at hr; obtain ⟨σ',x1,x2,_,x4,x5⟩:=h.alloc e (vs:=(List.replicate m.toNat zv.cells.toList).flatten.toArray) (cs:=(List.replicate m.toNat z).flatten) ((hvz σ).flatten_replicate _); refine ⟨σ',_,_,.inl (by simp [execOp,ho,h1.int_inv,h2.int_inv,hr]),x1,x2,.hsl x4 x5 ?_ (by omega) (Nat.le_refl _) c4⟩; have:(List.replicate m.toNat zv.cells.toList).flatten.length = m.toNat * sz:=by
    rw [List.length_flatten,List.map_replicate,List.sum_replicate_nat,Array.length_toList,hzs]
   simp only [List.size_toArray,this]; omega
  ·cases hv
 ·cases hv
theorem run_copyAny {dT sT ty e:TypeId} {i:TypeInfo} (ht:P.underlying dT = some (.slice e)) (hi:P.info? e = some i) {x:Value} {m:Nat} {news:List Value} (hs:Src P i.size sT x m news w)
 (base:Option Addr) (n c:Nat) (hmn:m<=n) {w':World} (hst:∀ ad,base = some ad->(storeCells ad news).run P w = .ok () w') (hn:base = none->w' = w) :
 (Builtin.copy_ #[dT,sT] ty #[.slice base n c,x]).run P w = .ok (.int .i64 m) w':=by
 have hm:Nat.min m n = m:=Nat.min_eq_left hmn
 cases base with
 | none=>simp [Builtin.copy_,run_underlying ht,hs.len,sizeOf,typeInfo,hi,hm,hs.cells,hn rfl,goInt]
 | some ad=>simp [Builtin.copy_,run_underlying ht,hs.len,sizeOf,typeInfo,hi,hm,hs.cells,hst ad rfl,goInt]
theorem spl_size {cur:Array Value} {off:Nat} {news:List Value} (h:off + news.length<=cur.size):((cur.toList.take off ++ news ++ cur.toList.drop (off + news.length)).toArray).size = cur.size:=by
 simp only [List.size_toArray,List.length_append,List.length_take,List.length_drop,Array.length_toList]; omega
theorem szOf_info {e:TypeId} {sz:Nat} (h:szOf P e = some sz):∃ i,P.info? e = some i/\i.size = sz:=by
 unfold szOf at h
 simp only [Option.map_eq_some_iff] at h; exact h
theorem set_self' {b:Nat} {k:ABlk} (h:H[b]? = some k):H.set b k = H:=set_self h
theorem ok_cpy {c:Call} {t tx e:TypeId} {sz:Nat} {x y:Operand} {x' y':Opd} {v:AV} {H':List ABlk} (ho:o.op = .call c) (hc:c.callee = .builtin .copy) (hT:c.argTypes.toList = [t,tx]) (hA:c.args.toList = [x,y])
 (ht:P.underlying t = some (.slice e)) (hz:szOf P e = some sz) (_h0:0 < sz) (hk:(elOf P tx).isSome = true\/P.underlying tx = some .string)
 (hx:opd x = some x') (hy:opd y = some y') (hs:SS σ s a) (h:HR σ H w) (hv:evK (.cpy sz x' y') s H = some (v,H')):OpOk P o a σ H w v H':=by
 have hT':c.argTypes = #[t,tx]:=by rw [<- Array.toArray_toList (xs:=c.argTypes),hT]
 have hA':c.args = #[x,y]:=by rw [<- Array.toArray_toList (xs:=c.args),hA]
 have h1:=get_sound hx hs; have h2:=get_sound hy hs; have hrun:∀ {v w'},(Builtin.copy_ #[t,tx] o.type #[a.eval x,a.eval y]).run P w = .ok v w'->(execOp a.eval o).run P w = .ok (.value v) w':=λhr=>by
  simp [execOp,ho,resolve,hc,hA',hT',invoke,builtin,hr]
 obtain ⟨i,hi,rfl⟩:=szOf_info hz; simp only [evK] at hv
 split at hv
 ·rename_i b off n cap sz' e1
  rw [e1] at h1
  split at hv
  ·rename_i cs xs hb e2
   split at hv
   ·rename_i es e3
    split at hv
    ·rename_i hcc
     obtain ⟨rfl,c1,c2⟩:=hcc
     cases hv
     obtain ⟨news,q1,q2,q3,_⟩:=src_sound (P:=P) hk h h2 e2 e3; have hfl:=flat_len q3; have hnl:=q1.newsLen; have hfits:es.length * i.size<=n * i.size:=Nat.mul_le_mul_right _ c1
     generalize hp:a.eval x = p at h1
     cases h1 with
     | hsl0 hφ =>
      rename_i ad v0
      have hes:es = []:=List.eq_nil_of_length_eq_zero (by omega); subst hes; have hnn:news = []:=List.eq_nil_of_length_eq_zero (by simpa using hnl); subst hnn; have hr:=run_copyAny (P:=P) (ty:=o.type) ht hi q1 ad 0 0 c1 (w':=w) (λ_ _=>by simp [storeCells]) (λ_=>rfl); rw [<- hp] at hr; have hsp:splice cs off [] = cs:=by simp [splice]
      refine ⟨σ,w,_,.inl (hrun hr),?_,?_,VR.mk_int _ _⟩
      ·simp only [List.flatten_nil,List.map_nil,hsp,set_self' hb]; exact .refl ..
      ·simp only [List.flatten_nil,List.map_nil,hsp,set_self' hb]; exact h
     | hsl hφ hN hoN hle hcc2 hml =>
      rename_i g cap' N
      have hlen:(es.flatten.map AV.d).length = news.length:=by rw [lnn,hfl,hnl]
      obtain ⟨cur,t',g1,g2,g3,g4⟩:=h.setCells (cs':=splice cs off (es.flatten.map .d)) hb hφ; have hcl:=g3.1; rw [List.length_take] at hcl; have hfit:off + (es.flatten.map AV.d).length<=cs.length:=by rw [hlen,hnl]; omega
      have hr0:=run_storeCells_at (P:=P) g off t' news 0 cur w g2 (by rw [<- Array.length_toList]; omega) q1.one; simp only [Nat.add_zero] at hr0; obtain ⟨f1,f2⟩:=g4 (cur.toList.take off ++ news ++ cur.toList.drop (off + news.length)).toArray (spl_size (by rw [Array.length_toList (xs:=cur)] at hcl; omega)) (splice_sound g3 q2.toVRs hfit (by omega)); have hr:=run_copyAny (P:=P) (ty:=o.type) ht hi q1 (some ⟨g,off,none⟩) n cap' c1 (w':=w.setRow g (cur.toList.take off ++ news ++ cur.toList.drop (off + news.length)).toArray) (λad had=>by cases had; exact hr0) (λh=>by cases h); rw [<- hp] at hr; exact ⟨σ,_,_,.inl (hrun hr),f1,f2,VR.mk_int _ _⟩
    ·cases hv
   ·cases hv
  ·cases hv
 ·cases hv
theorem grow_hp {t tx ty e:TypeId} {sz by' n:Nat} {z:List AV} {es:List (List Dat)} {ys:List AV} {x:Value} {news:List Value} {cs:List AV} {H1:List ABlk} (ht:P.underlying t = some (.slice e)) (hz:szOf P e = some sz) (hb:byOf P e = some by') (hzz:zeroOf P e = some z) (hzl:z.length = sz)
 (h0:0 < sz) (h:HR σ H1 w) (hncs:n * sz<=cs.length) (hs:Src P sz tx x es.length news w) (hd:VRs σ ys news)
 (hbytes:(n + es.length) * by'<=140737488355328) (hmax:n + es.length<=maxLen) (hfo:∀ k,foot σ H1 k->foot σ H k) (hdd:∀ b':Nat,H[b']? = some .dead->H1[b']? = some .dead) (hlen:H1.length = H.length)
 (base:Option Addr) (c:Nat) (olds:List Value) (hg:c < n + es.length) (hol:olds.length = n * sz) (hod:VRs σ (cs.take (n * sz)) olds) (hfc:(Builtin.firstCells sz n (.slice base n c)).run P w.drew = .ok olds.toArray w.drew) :
 ∃ v w' σ',(Builtin.append_ #[t,tx] ty #[.slice base n c,x]).run P w = .ok v w'/\Ext σ H w σ' (H1 ++ [.cells (cs.take (n * sz) ++ ys)]) w'/\HR σ' (H1 ++ [.cells (cs.take (n * sz) ++ ys)]) w' /\
  VR σ' (.hsl H.length 0 (n + es.length) (n + es.length) sz) v:=by
 obtain ⟨i,zv,hi,hisz,hiby,hzv,hzs⟩:=info_of hz hb hzz hzl; subst hisz; subst hiby; have hnl:=hs.newsLen; have hflat:(ys).length = es.length * i.size:=by rw [hd.1,hnl]
 have hm63:((n + es.length:Nat):Int)<=9223372036854775807:=by simp only [maxLen] at hmax; omega
 have hr:=run_append_grow_src (P:=P) w t tx ty e i zv ht hi hzv base n c olds hfc x es.length news hs hg hm63 (growslice_fits hg hbytes); have hge:=grownCap_ge w (n + es.length) c e; have hcm:grownCap w (n + es.length) c e<=maxLen:=grownCap_le_maxLen w _ c e hmax; have hgs:=grown_size (z:=zv) hzs hol hnl hge; have hgt:=grown_take (z:=zv) (grownCap w (n + es.length) c e - (n + es.length)) hol hnl; have hcsl:(cs.take (n * i.size) ++ ys).length = (n + es.length) * i.size:=by
  rw [List.length_append,hflat,List.length_take,Nat.min_eq_left hncs,Nat.add_mul]
 obtain ⟨σ',x1,x2,_,x4,x5⟩:=h.drew.placeAt w.heap.size e (w.drew.alloc (.cells ((olds ++ news).toArray ++ Builtin.zeroCells zv.cells (grownCap w (n + es.length) c e - (n + es.length))) e))
  (cs := cs.take (n * i.size) ++ ys) rfl rfl rfl (by simp) (alloc_heap_new w.drew _) (fun k _ hk => alloc_heap_old w.drew _ hk) (fun a ha => by
    cases hm:σ.M a with
    | none=>rfl
    | some v=>have:=h.Mlt hm; omega) (λb' k v hb' hl hv' hc'=>by have:=(h.blk b' k hb').lt hl hv' hc'; omega) H (.inr (Nat.le_refl _)) hfo hdd hlen.symm (by
     rw [hcsl,hgt]; exact hod.append hd)
 refine ⟨_,_,σ',hr,(Ext.drew ..).trans x1,x2,?_⟩; rw [<- hlen]; exact .hsl x4 x5 (by rw [hgs]; omega) (Nat.le_refl _) hge hcm
theorem append_nil_hp {t tx ty e:TypeId} {sz by':Nat} {z:List AV} {es:List (List Dat)} {ys:List AV} {x:Value} {news:List Value} {ad:Option Addr} (ht:P.underlying t = some (.slice e)) (hz:szOf P e = some sz) (hb:byOf P e = some by') (hzz:zeroOf P e = some z) (hzl:z.length = sz)
 (h0:0 < sz) (h:HR σ H w) (hs:Src P sz tx x es.length news w) (hd:VRs σ ys news)
 (hbytes:es.length * by'<=140737488355328) (hmax:es.length<=maxLen) :
 ∃ v w' σ',(Builtin.append_ #[t,tx] ty #[.slice ad 0 0,x]).run P w = .ok v w'/\Ext σ H w σ' (H ++ [.cells (ys)]) w'/\HR σ' (H ++ [.cells (ys)]) w' /\
  VR σ' (.hsl H.length 0 es.length es.length sz) v:=by
 by_cases hn0:es.length = 0
 ·have hes0:es = []:=List.eq_nil_of_length_eq_zero hn0
  subst hes0; have hnn:news = []:=List.eq_nil_of_length_eq_zero (by simpa using hs.newsLen); subst hnn; have hyy:ys = []:=List.eq_nil_of_length_eq_zero (by simpa using hd.1); subst hyy; obtain ⟨i,zv,hi,rfl,_⟩:=info_of hz hb hzz hzl; have hcn:conc (.slice ad 0 0) = none:=by cases ad <;> simp [conc]
  obtain ⟨σ',y1,y2,y3⟩:=h.place0 (.slice ad 0 0) hcn; exact ⟨_,w,σ',run_append_zero ht hi ad 0 0 (Nat.le_refl _) x hs,by simpa using y1,by simpa using y2,.hsl0 y3⟩
 ·have:=grow_hp (P:=P) (ty:=ty) (H:=H) (cs:=[]) (n:=0) ht hz hb hzz hzl h0 h (by simp) hs hd (by simpa using hbytes) (by simpa using hmax) (λ_ h=>h) (λ_ h=>h) rfl ad 0 [] (by omega) (by simp) (by simp; exact .nil) (by cases ad <;> simp [Builtin.firstCells,loadCells,loadCellsFrom])
  simpa using this
theorem append_hp {t tx ty e:TypeId} {sz by' b n cap:Nat} {z:List AV} {es:List (List Dat)} {ys:List AV} {x u0:Value} {news:List Value} {cs:List AV} (ht:P.underlying t = some (.slice e)) (hz:szOf P e = some sz) (hb:byOf P e = some by') (hzz:zeroOf P e = some z) (hzl:z.length = sz)
 (h0:0 < sz) (h:HR σ H w) (hH:H[b]? = some (.cells cs)) (hu:VR σ (.hsl b 0 n cap sz) u0) (hncs:n * sz<=cs.length) (hs:Src P sz tx x es.length news w) (hd:VRs σ ys news)
 (hbytes:(n + es.length) * by'<=140737488355328) (hmax:n + es.length<=maxLen) :
 ∃ v w' σ',(Builtin.append_ #[t,tx] ty #[u0,x]).run P w = .ok v w'/\Ext σ H w σ' (H.set b .dead ++ [.cells (cs.take (n * sz) ++ ys)]) w'/\HR σ' (H.set b .dead ++ [.cells (cs.take (n * sz) ++ ys)]) w' /\
  VR σ' (.hsl H.length 0 (n + es.length) (n + es.length) sz) v:=by
 obtain ⟨i,zv,hi,hisz,hiby,hzv,hzs⟩:=info_of hz hb hzz hzl; subst hisz; subst hiby; have hlt:b < H.length:=(List.getElem?_eq_some_iff.1 hH).1; have hdie:=h.die b hlt; have hlen:(H.set b .dead).length = H.length:=by simp
 have hnl:=hs.newsLen; have hflat:(ys).length = es.length * i.size:=by rw [hd.1,hnl]
 have hm63:((n + es.length:Nat):Int)<=9223372036854775807:=by simp only [maxLen] at hmax; omega
 have hdd:∀ b':Nat,H[b']? = some .dead->(H.set b .dead)[b']? = some .dead:=λb' hb'=>by
  by_cases e:b' = b
  ·subst e; rw [hH] at hb'; cases hb'
  ·rw [List.getElem?_set_ne (Ne.symm e)]; exact hb'
 have grow:∀ (base:Option Addr) (c:Nat) (olds:List Value),u0 = .slice base n c->c < n + es.length->olds.length = n * i.size->VRs σ (cs.take (n * i.size)) olds->(Builtin.firstCells i.size n (.slice base n c)).run P w.drew = .ok olds.toArray w.drew ->
  ∃ v w' σ',(Builtin.append_ #[t,tx] ty #[u0,x]).run P w = .ok v w'/\Ext σ H w σ' (H.set b .dead ++ [.cells (cs.take (n * i.size) ++ ys)]) w'/\HR σ' (H.set b .dead ++ [.cells (cs.take (n * i.size) ++ ys)]) w' /\
  VR σ' (.hsl H.length 0 (n + es.length) (n + es.length) i.size) v:=by
  intro base c olds hu0 hg hol hod hfc
  rw [hu0]; exact grow_hp ht hz hb hzz hzl h0 hdie hncs hs hd hbytes hmax (λk hk=>foot_die hk) hdd hlen base c olds hg hol hod hfc
 cases hu with
 | hsl0 hφ =>
  rename_i ad v0
  by_cases hn0:es.length = 0
  ·have hes0:es = []:=List.eq_nil_of_length_eq_zero hn0
   subst hes0; have hnn:news = []:=List.eq_nil_of_length_eq_zero (by simpa using hnl); subst hnn; have hyy:ys = []:=List.eq_nil_of_length_eq_zero (by simpa using hd.1); subst hyy; have hcn:conc (.slice ad 0 0) = none:=by cases ad <;> simp [conc]
   obtain ⟨σ',y1,y2,y3⟩:=hdie.place0 (.slice ad 0 0) hcn; refine ⟨_,w,σ',run_append_zero ht hi ad 0 0 (Nat.le_refl _) x hs,?_,by simpa using y2,?_⟩
   ·have:Ext σ H w σ (H.set b .dead) w:=⟨.refl _,rfl,rfl,rfl,Nat.le_refl _,λ_ _ _=>rfl,λk hk=>.inl (foot_die hk),λ_ h=>absurd rfl h,λb' hb'=>⟨hdd b' hb',λ_=>rfl⟩⟩
    simpa using this.trans y1
   ·rw [<- hlen]; exact .hsl0 y3
  ·exact grow ad 0 [] rfl (by omega) (by simp) (by simp; exact .nil) (by cases ad <;> simp [Builtin.firstCells,loadCells,loadCellsFrom])
 | hsl hφ hN hoN hle hcc hml =>
  rename_i g cap' N
  obtain ⟨cur,t',g1,g2,g3,g4⟩:=h.cellsAt hH hφ; rw [hN] at g1; have hNs:N = cur.size:=by injection g1 with g1; injection g1 with _ g1; omega
  subst hNs; have hcl:=g3.1; rw [List.length_take] at hcl; have hpre:VRs σ (cs.take (n * i.size)) (cur.toList.take (n * i.size)):=by
   have:=g3.take (n * i.size)
   rwa [List.take_take,Nat.min_eq_left hncs] at this
  have hcur:n * i.size<=cur.size:=by
   have:=Nat.mul_le_mul_right i.size (Nat.le_trans hle hcc); omega
  have htl:(cur.toList.take (n * i.size)).length = n * i.size:=by rw [List.length_take,Array.length_toList]; omega
  by_cases hroom:n + es.length<=cap'
  ·have hfit : n * i.size + news.length <= cur.size := by
    rw [hnl,<- Nat.add_mul]; have:=Nat.mul_le_mul_right i.size hroom; omega
   have hw':∃ w',(Builtin.append_ #[t,tx] ty #[.slice (some ⟨g,0,none⟩) n cap',x]).run P w = .ok (.slice (some ⟨g,0,none⟩) (n + es.length) cap') w'/\w' = w.setRow g (cur.toList.take (n * i.size) ++ news ++ cur.toList.drop (n * i.size + news.length)).toArray:=by
    by_cases hn0:es.length = 0
    ·have hes0:es = []:=List.eq_nil_of_length_eq_zero hn0
     subst hes0; have hnn:news = []:=List.eq_nil_of_length_eq_zero (by simpa using hnl); subst hnn; refine ⟨w,run_append_zero ht hi _ n cap' (by omega) x hs,?_⟩; simp only [List.append_nil,List.length_nil,Nat.add_zero,List.take_append_drop,Array.toArray_toList]; exact (setRow_self w g cur t' (0,0) g2).symm
    ·have hr:=run_append_room_src (P:=P) w t tx ty e i ht hi g 0 n cap' x es.length news hs hroom (λj hj=>by simp only [World.cell?,g2]; simp; omega) (λj hj=>by simp only [World.frozen?,g2]; simp)
     rw [Nat.zero_add,setCells_setRow P g2 hfit hs.one] at hr; exact ⟨_,hr,rfl⟩
   obtain ⟨w',hr,rfl⟩:=hw'; have hhg:=setRow_heap w g cur (cur.toList.take (n * i.size) ++ news ++ cur.toList.drop (n * i.size + news.length)).toArray t' _ g2; have hsz':((cur.toList.take (n * i.size) ++ news ++ cur.toList.drop (n * i.size + news.length)).toArray).size = cur.size:=spl_size hfit; have hcsl:(cs.take (n * i.size) ++ ys).length = n * i.size + news.length:=by
    rw [List.length_append,hflat,List.length_take,Nat.min_eq_left hncs,hnl]
   obtain ⟨σ',x1,x2,_,x4,x5⟩:=hdie.placeAt g t' (w.setRow g (cur.toList.take (n * i.size) ++ news ++ cur.toList.drop (n * i.size + news.length)).toArray)
    (cs := cs.take (n * i.size) ++ ys) rfl rfl rfl (by simp) hhg (fun k hk _ => setRow_other w g k _ hk) g4 (fun b' k v hb' hl hv' hc' => by
      by_cases e:b' = b
      ·subst e
       rw [List.getElem?_set_self hlt] at hb'
       cases hb'; cases hl
      ·rw [List.getElem?_set_ne (Ne.symm e)] at hb'
       exact e (h.inj b' b k _ v _ g hb' hH hl rfl hv' hφ hc' (by simp [conc]))) H (.inl ⟨b,_,_,hH,rfl,hφ,by simp [conc]⟩) (λk hk=>foot_die hk) hdd (by simp) (by
       rw [hcsl]; have hl2:(cur.toList.take (n * i.size) ++ news).length = n * i.size + news.length:=by rw [List.length_append,htl]
       simp only; rw [<- hl2,List.take_left]; exact hpre.append hd)
   refine ⟨_,_,σ',hr,x1,x2,?_⟩; rw [<- hlen]; exact .hsl x4 x5 (by rw [hsz']; omega) (Nat.le_refl _) hroom hml
  ·refine grow (some ⟨g,0,none⟩) cap' (cur.toList.take (n * i.size)) rfl (by omega) htl hpre ?_
   exact run_firstCells_some (P:=P) w.drew i.size n ⟨g,0,none⟩ n cap' _ htl (λj v hj=>by
    rw [addr_lit,Nat.zero_add]; rw [List.getElem?_take] at hj
    split at hj
    ·simp only [World.cell?,show w.drew.heap[g]? = some (.cells cur t' (0,0)) from g2]
     simpa using hj
    ·cases hj)
theorem ok_app {c:Call} {t tx e:TypeId} {sz by':Nat} {z:List AV} {x y:Operand} {x' y':Opd} {md:Md} {v:AV} {H':List ABlk} (ho:o.op = .call c) (hc:c.callee = .builtin .append) (hT:c.argTypes.toList = [t,tx]) (hA:c.args.toList = [x,y])
 (ht:P.underlying t = some (.slice e)) (hz:szOf P e = some sz) (hb:byOf P e = some by') (hzz:zeroOf P e = some z) (hzl:z.length = sz) (h0:0 < sz) (hk:(elOf P tx).isSome = true\/P.underlying tx = some .string)
 (hx:opd x = some x') (hy:opd y = some y') (hs:SS σ s a) (h:HR σ H w) (hv:evK (.app md e sz by' x' y') s H = some (v,H')):OpOk P o a σ H w v H':=by
 have hT':c.argTypes = #[t,tx]:=by rw [<- Array.toArray_toList (xs:=c.argTypes),hT]
 have hA':c.args = #[x,y]:=by rw [<- Array.toArray_toList (xs:=c.args),hA]
 have h1:=get_sound hx hs; have h2:=get_sound hy hs; have hrun:∀ {v w'},(Builtin.append_ #[t,tx] o.type #[a.eval x,a.eval y]).run P w = .ok v w'->(execOp a.eval o).run P w = .ok (.value v) w':=λhr=>by
  simp [execOp,ho,resolve,hc,hA',hT',invoke,builtin,hr]
 simp only [evK] at hv
 split at hv
 ·rename_i xs e1
  split at hv
  ·rename_i es e2
   obtain ⟨news,q1,q2,q3,q4⟩:=src_sound (P:=P) hk h h2 e1 e2
   split at hv
   ·rename_i e3
    rw [e3] at h1; obtain ⟨ad,hu⟩:=h1.esl_inv
    split at hv
    ·rename_i hc2
     obtain ⟨v',w',hr,r1,r2⟩:=append_nil (P:=P) (ty:=o.type) (base:=ad) md ht hz hb hzz hzl h0 h q1 q2 q3 hc2.1 hc2.2; obtain ⟨v2,w2,σ2,hr2,z1,z2,z3⟩:=append_nil_hp (P:=P) (ty:=o.type) (ad:=ad) ht hz hb hzz hzl h0 h q1 q4 hc2.1 hc2.2; rw [<- hu] at hr hr2
     cases md with
     | im =>
      cases hv
      obtain ⟨σ',y1,y2,y3⟩:=r1 rfl; exact ⟨σ',w',v',.inl (hrun hr),y1,y2,y3⟩
     | hp =>
      cases hv
      exact ⟨σ2,w2,v2,.inl (hrun hr2),z1,z2,z3⟩
     | gr =>
      cases hv
      obtain ⟨σ',y1,y2,y3⟩:=r2 (by simp); exact ⟨σ',w',v',.inl (hrun hr),y1,y2,y3⟩
    ·cases hv
   ·rename_i b sz0 old e3
    rw [e3] at h1
    split at hv
    ·rename_i e' sz' n hH
     split at hv
     ·rename_i hc2
      obtain ⟨c1,c2,c3,c4,c5,c6⟩:=hc2; subst c1; subst c2; subst c3; subst c4
      cases hv
      obtain ⟨v',w',σ',hr,y1,y2,y3⟩:=append_row (P:=P) (ty:=o.type) ht hz hb hzz hzl h0 h hH h1 q1 q2 q3 c5 c6; exact ⟨σ',w',v',.inl (hrun hr),y1,y2,y3⟩
     ·cases hv
    ·cases hv
   ·rename_i b n cap sz' e3
    rw [e3] at h1
    split at hv
    ·rename_i cs hH
     split at hv
     ·rename_i hc2
      obtain ⟨c1,c2,c3,c4⟩:=hc2; subst c1
      cases hv
      obtain ⟨v',w',σ',hr,y1,y2,y3⟩:=append_hp (P:=P) (ty:=o.type) ht hz hb hzz hzl h0 h hH h1 c2 q1 q4 c3 c4; exact ⟨σ',w',v',.inl (hrun hr),y1,y2,y3⟩
     ·cases hv
    ·cases hv
   ·cases hv
  ·rename_i e2
   unfold appH at hv
   split at hv
   ·rename_i e3
    rw [e3] at h1; obtain ⟨ad,hu⟩:=h1.esl_inv
    split at hv
    ·rename_i hc2
     obtain ⟨news,q1,q4⟩:=src_sound2 (P:=P) hk h h2 e1 e2 hc2.2.2; have hrl:(List.replicate xs.length ([]:List Dat)).length = xs.length:=List.length_replicate; obtain ⟨v2,w2,σ2,hr2,z1,z2,z3⟩:=append_nil_hp (P:=P) (ty:=o.type) (ad:=ad) (es:=List.replicate xs.length []) ht hz hb hzz hzl h0 h (by rw [hrl]; exact q1) q4 (by rw [hrl]; exact hc2.1) (by rw [hrl]; exact hc2.2.1); rw [<- hu] at hr2; rw [hrl] at z3
     cases hv
     exact ⟨σ2,w2,v2,.inl (hrun hr2),z1,z2,z3⟩
    ·cases hv
   ·rename_i b n cap sz' e3
    rw [e3] at h1
    split at hv
    ·rename_i cs hH
     split at hv
     ·rename_i hc2
      obtain ⟨c1,c2,c3,c4,c5⟩:=hc2; subst c1
      cases hv
      obtain ⟨news,q1,q4⟩:=src_sound2 (P:=P) hk h h2 e1 e2 c5; have hrl:(List.replicate xs.length ([]:List Dat)).length = xs.length:=List.length_replicate; obtain ⟨v',w',σ',hr,y1,y2,y3⟩:=append_hp (P:=P) (ty:=o.type) (es:=List.replicate xs.length []) ht hz hb hzz hzl h0 h hH h1 c2 (by rw [hrl]; exact q1) q4 (by rw [hrl]; exact c3) (by rw [hrl]; exact c4); rw [hrl] at y3; exact ⟨σ',w',v',.inl (hrun hr),y1,y2,y3⟩
     ·cases hv
    ·cases hv
   ·cases hv
 ·cases hv
end
section
variable {P:Program} {o:Oper} {a:Act} {σ:Sg} {H:List ABlk} {w:World} {s:List AV}
theorem bytesOf_spec:∀ {xs:List (List AV)} {l:List UInt8},bytesOf xs = some l->∃ ns:List Int,xs = ns.map (λn=>[AV.d (.v (.int .u8 n))])/\l = ns.map λn=>UInt8.ofNat n.toNat
 | [],l,h=>by simp [bytesOf] at h; subst h; exact ⟨[],rfl,rfl⟩
 | x :: r,l,h=>by
  unfold bytesOf at h
  split at h
  ·rename_i e; cases e
  ·rename_i n r' e
   cases e
   split at h
   ·rename_i l' e2
    cases h
    obtain ⟨ns,h1,h2⟩:=bytesOf_spec e2; exact ⟨n :: ns,by simp [h1],by simp [h2]⟩
   ·cases h
  ·cases h
theorem foldl_push:∀ (ns:List Int) (r:ByteArray),ns.foldl (λr n=>r.push (UInt8.ofNat n.toNat)) r = ⟨r.data ++ (ns.map λn=>UInt8.ofNat n.toNat).toArray⟩
 | [],r=>by simp
 | n :: ns,r=>by
  rw [List.foldl_cons,foldl_push ns]; simp [ByteArray.push]
theorem flatten_single {α β:Type} (f:α->β):∀ l:List α,(l.map λx=>[f x]).flatten = l.map f
 | []=>rfl
 | x :: l=>by simp [flatten_single f l]
theorem VD.plain_inv {M:Mem} {x u:Value} (h:VD M (.v x) u):u = x:=by cases h; rfl
theorem byteT_spec {t:TypeId} (h:byteT P t = true):∃ e,P.underlying t = some (.slice e)/\P.underlying e = some (.int .u8)/\szOf P e = some 1:=by
 unfold byteT at h
 split at h
 ·rename_i e he
  simp only [Bool.and_eq_true,beq_iff_eq] at h; refine ⟨e,?_,?_,h.2⟩
  ·unfold elOf at he
   simp only [Option.bind_eq_some_iff] at he; obtain ⟨d,hd,he⟩:=he
   split at he
   ·cases he; exact hd
   ·cases he
  ·have h1:=h.1
   split at h1
   ·assumption
   ·cases h1
 ·cases h
theorem ok_b2s {r t:TypeId} {x:Operand} {x':Opd} {v:AV} {H':List ABlk} (ho:o.op = .convert r t x) (hr:byteT P r = true) (ht:P.underlying t = some .string) (hx:opd x = some x') (hs:SS σ s a) (h:HR σ H w)
 (hv:evK (.b2s x') s H = some (v,H')):OpOk P o a σ H w v H':=by
 obtain ⟨e,h1,h2,h3⟩:=byteT_spec hr; have hvr:=get_sound hx hs; simp only [evK] at hv
 split at hv
 ·rename_i hstr
  split at hv
  ·rename_i xs e1
   split at hv
   ·rename_i l e2
    cases hv
    obtain ⟨ns,rfl,rfl⟩:=bytesOf_spec e2; have hd:datss (ns.map λn=>[AV.d (.v (.int .u8 n))]) = some (ns.map λn=>[Dat.v (.int .u8 n)]):=by
     have:(ns.map λn=>[AV.d (.v (.int .u8 n))]) = (ns.map λn=>[Dat.v (.int .u8 n)]).map (·.map .d):=by simp
     rw [this,datss_map_d]
    have hk:(elOf P r).isSome = true\/P.underlying r = some .string:=.inl (by simp [elOf,h1]); obtain ⟨news,q1,q2,q3,_⟩:=src_sound (P:=P) hk h hvr e1 hd; rw [flatten_single] at q2; have hnews:news = ns.map (Value.int .u8):=by
     apply List.ext_getElem?
     intro i
     have hl:=q2.1; rw [lnn] at hl
     by_cases hi:i < ns.length
     ·have:=q2.2 i (.v (.int .u8 ns[i])) (news[i]'(by omega)) (by simp [hi]) (gEe (by omega))
      rw [gEe (by omega),this.plain_inv]; simp [hi]
     ·rw [List.getElem?_eq_none (by omega),List.getElem?_eq_none (by simp; omega)]
    subst hnews; refine .pure h ?_ (VR.mk_str _); have hcs:=q1.cells; have hln:=q1.len w; have fin:∀ ad n c,a.eval x = .slice ad n c->(convert r t (a.eval x)).run P w = .ok (.string ⟨(ns.map λn=>UInt8.ofNat n.toNat).toArray⟩) w:=by
     intro ad n c hu
     rw [hu] at hcs hln ⊢; rw [run_convert_bytes_string w r t e ad n c h1 h2 ht]; simp [Builtin.lenOf] at hln; subst hln
     cases ad with
     | none =>
      have:ns = []:=by
       simp [Builtin.firstCells] at hcs; exact hcs
      subst this
      rfl
     | some a' =>
      rw [run_bytesToString w a' _ c ns (by simpa [Builtin.firstCells] using hcs),foldl_push,show ByteArray.empty.data = #[] from rfl,Array.empty_append]
    have hconv:(convert r t (a.eval x)).run P w = .ok (.string ⟨(ns.map λn=>UInt8.ofNat n.toNat).toArray⟩) w:=by
     cases hu:a.eval x with
     | slice ad n c=>rw [<- hu]; exact fin ad n c hu
     | string b =>
      exfalso
      rw [hu] at hvr
      generalize get s x' = X at hstr e1 hvr
      cases hvr with
      | any=>simp [elemsA] at e1
      | d hd=>cases hd; simp [isStr] at hstr
      | gsl _ _ hd=>cases hd
     | _=>rw [hu] at hln; simp [Builtin.lenOf,stuck,Sem.run] at hln
    simp [execOp,ho,hconv]
   ·cases hv
  ·cases hv
 ·cases hv
theorem ok_s2b {r t:TypeId} {x:Operand} {x':Opd} {v:AV} {H':List ABlk} {n:Nat} (ho:o.op = .convert r t x) (hr:P.underlying r = some .string) (ht:byteT P t = true) (hx:opd x = some x') (hs:SS σ s a) (h:HR σ H w)
 (hv:evK (.s2b .im n x') s H = some (v,H')):OpOk P o a σ H w v H':=by
 obtain ⟨e,h1,h2,h3⟩:=byteT_spec ht; have hvr:=get_sound hx hs; simp only [evK] at hv
 split at hv
 ·rename_i b e1
  rw [e1] at hvr
  split at hv
  ·rename_i hb
   cases hv
   have hu:=hvr.str_inv; have hrun:=Go.run_bytes_of_string (P:=P) w r t e b hr h1 h2; obtain ⟨σ',x1,x2,x3,_⟩:=h.drew.allocMF e (bytesRow b (grownCap w b.size 0 e)) ((bytesRow b (grownCap w b.size 0 e)).size,(bytesRow b (grownCap w b.size 0 e)).size + 1); refine ⟨σ',_,_,.inl (by simp [execOp,ho,hu,hrun]; rfl),(Ext.drew ..).trans x1,x2,.d ?_⟩; have hge:b.size<=grownCap w b.size 0 e:=grownCap_ge w b.size 0 e; have hcm:grownCap w b.size 0 e<=maxLen:=grownCap_le_maxLen w _ 0 e hb; have hl:(b.data.toList.map λc=>[Dat.v (.int .u8 c.toNat)]).length = b.size:=by rw [lnn,Array.length_toList]; rfl
   have:=VD.of_cells (M:=σ'.M) (es:=b.data.toList.map λc=>[Dat.v (.int .u8 c.toNat)]) (sz:=1) (λe he=>by obtain ⟨c,_,rfl⟩:=List.mem_map.1 he; rfl) ⟨w.heap.size,0,none⟩ (grownCap w b.size 0 e) (by rw [hl]; exact hge) hcm
    (us := b.data.toList.map fun c => Value.int .u8 c.toNat) (by
      rw [flatten_single]; refine ⟨by simp,λi d u k1 k2=>?_⟩; rw [List.getElem?_map,Option.map_eq_some_iff] at k1 k2; obtain ⟨c,hc,rfl⟩:=k1; obtain ⟨c',hc',rfl⟩:=k2; rw [hc] at hc'; cases hc'; exact .v rfl) (λj u hj=>by
      rw [addr_lit,Nat.zero_add]; refine x3 j u ?_; rw [List.getElem?_map,Option.map_eq_some_iff] at hj; obtain ⟨c,hc,rfl⟩:=hj; have hlt:j < b.data.size:=by
       have:=(List.getElem?_eq_some_iff.1 hc).1
       rwa [Array.length_toList] at this
      have hlt':j < b.size:=hlt; simp [bytesRow,Array.getElem?_append]; rw [if_pos hlt']; rw [Array.getElem?_toList] at hc; rw [hc]; rfl)
   rw [hl] at this; exact this
  ·cases hv
 ·cases hv
theorem extIxb_find {fn : Func} (hn : fn.name = "internal/bytealg.IndexByteString") (ho : fn.origin = "") : Extern.findNext fn = none /\ Extern.find fn = some Extern.BytealgIndexByte.indexByte := by
 refine ⟨?_,?_⟩
 ·unfold Extern.findNext
  rw [hn, ho]; simp only; have h1 : Extern.allNextRows.lookup "internal/bytealg.IndexByteString" = none := by kernel_rfl
  have h2 : Extern.allNextRows.lookup "" = none := by kernel_rfl
  rw [h1,h2]; rfl
 ·unfold Extern.find
  rw [hn, ho]; simp only; have h1 : Extern.allGenericRows.lookup "internal/bytealg.IndexByteString" = none := by kernel_rfl
  have h2 : Extern.allTypedRows.lookup "internal/bytealg.IndexByteString" = none := by kernel_rfl
  have h3 : Extern.allRows.lookup "internal/bytealg.IndexByteString" = some Extern.BytealgIndexByte.indexByte := by kernel_rfl
  rw [h1,h2,h3]; rfl
theorem idxB_eq:∀ (l:List UInt8) (c:UInt8),idxB l c = Lib.indexByte l c
 | [],_=>rfl
 | b :: l,c=>by unfold idxB Lib.indexByte; rw [idxB_eq l c]
theorem ok_ixb {c:Call} {f:FuncId} {x y:Operand} {x' y':Opd} {v:AV} {H':List ABlk} (ho:o.op = .call c) (hc:c.callee = .value (.func f)) (hA:c.args.toList = [x,y]) (hf:extIxb P f = true)
 (hx:opd x = some x') (hy:opd y = some y') (hs:SS σ s a) (h:HR σ H w) (hv:evK (.ixb f x' y') s H = some (v,H')):OpOk P o a σ H w v H':=by
 have hA':c.args = #[x,y]:=by rw [<- Array.toArray_toList (xs:=c.args),hA]
 have h1:=get_sound hx hs; have h2:=get_sound hy hs
 unfold extIxb at hf
 split at hf
 ·rename_i fn hfn
  simp only [Bool.and_eq_true,beq_iff_eq] at hf; obtain ⟨⟨hn,hb⟩,hor⟩:=hf; obtain ⟨g1,g2⟩:=extIxb_find hn hor; have hcf:=run_callFunc_extern (P:=P) hfn (by rw [hn]; decide) hb g1 g2; simp only [evK] at hv
  split at hv
  ·rename_i b n e1 e2
   rw [e1] at h1; rw [e2] at h2
   cases hv
   refine .pure h ?_ (VR.mk_int _ _); have hr:=Lib.run_indexByteString (P:=P) b n w; rw [idxB_eq]; have hfe:a.eval (.func f) = .func (.func f) #[] #[]:=rfl; simp [execOp,ho,resolve,hc,hA',hfe,Deferred.ofValue,invoke,h1.str_inv,h2.int_inv,hcf,hr]
  ·cases hv
 ·cases hf
theorem ok_sla {t r e:TypeId} {x:Operand} {lo hi:Option Operand} {x':Opd} {lo' hi':Option Opd} {n sz:Nat} {v:AV} {H':List ABlk} (ho:o.op = .slice t x lo hi none) (ht:P.underlying t = some (.pointer r)) (hr:P.underlying r = some (.array n e)) (hz:szOf P e = some sz)
 (hx:opd x = some x') (hlo:opdO lo = some lo') (hhi:opdO hi = some hi') (hs:SS σ s a) (h:HR σ H w) (hv:evK (.sla x' lo' hi' n sz) s H = some (v,H')):OpOk P o a σ H w v H':=by
 have h1:=get_sound hx hs; simp only [evK] at hv
 split at hv
 ·rename_i b off e1
  rw [e1] at h1
  split at hv
  ·rename_i cs l h' hb hl hh
   split at hv
   ·rename_i hc
    obtain ⟨hc,hnm⟩:=hc
    split at hv
    ·rename_i v' e2
     cases hv
     generalize hp:a.eval x = p at h1
     cases h1 with
     | ptr hφ =>
      rename_i g
      obtain ⟨vs,t',g1,g2,g3,g4⟩:=h.cellsAt hb hφ; have hcl:=g3.1; rw [List.length_take,Array.length_toList (xs:=vs)] at hcl; have hl':=bnd_sound hlo hs hl; have hh':=bnd_sound hhi hs hh; simp only [slA] at e2
      split at e2
      ·rename_i hcc
       obtain ⟨c1,c2,c3,_⟩:=hcc; have hrun:(execOp a.eval o).run P w = .ok (.value (.slice (some (if n = l.toNat then ⟨g,off,none⟩ else (⟨g,off,none⟩:Addr).add (l.toNat * sz))) (h'.toNat - l.toNat) (n - l.toNat))) w:=by
        simp [execOp,ho,hp,Instr.sliceAt,Instr.slice,Instr.sureAddr,run_underlying ht,run_underlying hr,asAddr,run_sliceBounds (P:=P) (b:=false) hl' hh' c1 c2 c3,szOf_run hz]
       split at e2
       ·rename_i hln
        cases e2
        have h0:h'.toNat - l.toNat = 0:=by omega
        rw [h0] at hrun; exact .pure h hrun (.d .nil)
       ·rename_i hln
        cases e2
        rw [if_neg (by omega)] at hrun; refine .pure h hrun ?_; rw [addr_lit]; refine .hsl hφ g1 ?_ (by omega) (Nat.le_refl _) (by omega); have:l.toNat * sz + (n - l.toNat) * sz = n * sz:=by rw [<- Nat.add_mul]; congr 1; omega
        omega
      ·cases e2
    ·cases hv
   ·cases hv
  ·cases hv
 ·cases hv
theorem ok_slb {t e:TypeId} {x:Operand} {lo hi:Option Operand} {x':Opd} {lo' hi':Option Opd} {n sz:Nat} {v:AV} {H':List ABlk} (ho:o.op = .slice t x lo hi none) (ht:P.underlying t = some (.array n e)) (hz:szOf P e = some sz)
 (hx:opd x = some x') (hlo:opdO lo = some lo') (hhi:opdO hi = some hi') (hs:SS σ s a) (h:HR σ H w) (hv:evK (.sla x' lo' hi' n sz) s H = some (v,H')):OpOk P o a σ H w v H':=by
 have h1:=get_sound hx hs; simp only [evK] at hv
 split at hv
 ·rename_i b off e1
  rw [e1] at h1
  split at hv
  ·rename_i cs l h' hb hl hh
   split at hv
   ·rename_i hc
    obtain ⟨hc,hnm⟩:=hc
    split at hv
    ·rename_i v' e2
     cases hv
     generalize hp:a.eval x = p at h1
     cases h1 with
     | ptr hφ =>
      rename_i g
      obtain ⟨vs,t',g1,g2,g3,g4⟩:=h.cellsAt hb hφ; have hcl:=g3.1; rw [List.length_take,Array.length_toList (xs:=vs)] at hcl; have hl':=bnd_sound hlo hs hl; have hh':=bnd_sound hhi hs hh; simp only [slA] at e2
      split at e2
      ·rename_i hcc
       obtain ⟨c1,c2,c3,_⟩:=hcc; have hrun:(execOp a.eval o).run P w = .ok (.value (.slice (some (if n = l.toNat then ⟨g,off,none⟩ else (⟨g,off,none⟩:Addr).add (l.toNat * sz))) (h'.toNat - l.toNat) (n - l.toNat))) w:=by
        simp [execOp,ho,hp,Instr.sliceAt,Instr.sureAddr,run_underlying ht,asAddr,run_sliceBounds (P:=P) (b:=false) hl' hh' c1 c2 c3,szOf_run hz]
       split at e2
       ·rename_i hln
        cases e2
        have h0:h'.toNat - l.toNat = 0:=by omega
        rw [h0] at hrun; exact .pure h hrun (.d .nil)
       ·rename_i hln
        cases e2
        rw [if_neg (by omega)] at hrun; refine .pure h hrun ?_; rw [addr_lit]; refine .hsl hφ g1 ?_ (by omega) (Nat.le_refl _) (by omega); have:l.toNat * sz + (n - l.toNat) * sz = n * sz:=by rw [<- Nat.add_mul]; congr 1; omega
        omega
      ·cases e2
    ·cases hv
   ·cases hv
  ·cases hv
 ·cases hv
end
end Go.Proofs.YtofpekbidngnfaaGreatDoor
