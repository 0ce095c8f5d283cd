/-
  One's own library, part 6e: a range over a map: its iterator, and the entry that it stands at.
-/
import Derived.Test.YtofpekbidngnfaaGreatDoorYSndD
import Derived.Maps.RangeRun
import Derived.Deep.LoopGhost
set_option linter.unusedSectionVars false
set_option linter.unusedSimpArgs false
set_option linter.unusedVariables false
namespace Go.Proofs.YtofpekbidngnfaaGreatDoor
open Go.RowKit
section
variable {P:Program} {hint:Nat->Option Md} {σ:Sg} {s:List AV} {H:List ABlk} {a:Act} {w:World} {o:Oper}
theorem ok_rng {t:TypeId} {x:Operand} {x':Opd} {v:AV} {H':List ABlk} (ho:o.op = .range t x) (ht:(mapT P t).isSome = true) (hx:opd x = some x') (hs:SS σ s a) (h:HR σ H w) (hv:evK (.rng x') s H = some (v,H')):OpOk P o a σ H w v H':=by
 obtain ⟨⟨k,e⟩,he⟩:=Option.isSome_iff_exists.1 ht; have hu:P.underlying t = some (.map k e):=by
  unfold mapT at he
  simp only [Option.bind_eq_some_iff] at he; obtain ⟨d,h1,h2⟩:=he
  split at h2
  ·cases h2; exact h1
  ·cases h2
 have h1:=get_sound hx hs; simp only [evK] at hv
 generalize get s x' = X at h1 hv
 generalize hU:a.eval x = u at h1
 split at hv
 ·rename_i b
  split at hv
  ·rename_i kt ck es hb
   cases hv
   cases h1 with
   | mp hφ =>
    rename_i g
    obtain ⟨ms,hg,hmr⟩:=h.mapAt hb hφ; have hrun:(execOp a.eval o).run P w = .ok (.value (.pointer (some ⟨w.heap.size,0,none⟩))) (w.alloc (.mapIter (some g) ck #[] ck)):=by
     simp [execOp,ho,Instr.range,newObj,Sem.run,run_underlying hu,hU,getObj,hg]
    have hnew:∀ n,σ.φ H.length n = none:=λn=>h.fresh _ _ (Nat.le_refl _)
    have hbl:b < H.length:=(List.getElem?_eq_some_iff.1 hb).1; have hle:=Sg.putφ_le (v:=.pointer (some ⟨w.heap.size,0,none⟩)) (hnew 0); refine ⟨σ.putφ H.length 0 (.pointer (some ⟨w.heap.size,0,none⟩)),_,_,.inl hrun,⟨hle,rfl,rfl,rfl,by simp,λk hk _=>alloc_heap_old w _ hk,?_,λ_ h=>absurd rfl h,λb hb=>dead_concat hb (λn hne=>Sg.putφ_other _ _ _ _ _ hne)⟩,?_,.ptr (Sg.putφ_same ..)⟩
    ·rintro k ⟨b',blk,v',hb',hl,hφ',hc'⟩
     by_cases e':b' = H.length
     ·subst e'
      simp at hb'; subst hb'; rw [show ABlk.ver (.iter b ck [] ck) = 0 from rfl,Sg.putφ_same] at hφ'
      cases hφ'
      simp [conc] at hc'; exact .inr (by omega)
     ·rw [getElem?_concat_ne H _ e'] at hb'
      rw [Sg.putφ_other _ _ _ _ _ e'] at hφ'; exact .inl ⟨b',blk,v',hb',hl,hφ',hc'⟩
    ·refine h.turn hle H.length (.iter b ck [] ck) (fun b hb => getElem?_concat_ne H _ hb) (by simp) (by simp) (fun b n hb => Sg.putφ_other _ _ _ _ _ hb) ⟨fun a v hm => h.mem_alloc _ a v hm, h.mem.gl, h.mem.sz.alloc _⟩
      ⟨w.heap.size,g,Sg.putφ_same ..,(by rw [Sg.putφ_other _ _ _ _ _ (by omega)]; exact hφ),alloc_heap_new w _⟩ λb' k v g hb hk hl hv hcv=>?_
     have hlt:=(h.blk b' k hk).lt hl hv hcv; refine ⟨alloc_heap_old w _ hlt,λ_ _=>rfl,λv0 _ hv0=>?_⟩; rw [show ABlk.ver (.iter b ck [] ck) = 0 from rfl,Sg.putφ_same] at hv0
     cases hv0
     simp [conc]; omega
  ·cases hv
 ·cases hv
theorem keyAV_VR {kt:KT} {k:Value} (hf:keyFits kt k = true):VR σ (keyAV k) k:=by
 have one:∀ {c:KC} {v:Value},kcFit c v = true->VR σ (.d (.v v)) v:=λ{c v} h=>by
  refine .plain ?_
  cases c <;> cases v <;> first | (cases h; done) | rfl
 have lst:∀ (ks:List KC) (vs:List Value),fitL ks vs = true->VRs σ (vs.map λc=>AV.d (.v c)) vs:=by
  intro ks
  induction ks with
  | nil=>intro vs h; cases vs with
   | nil=>exact .nil
   | cons v vs=>cases h
  | cons k ks ih=>intro vs h; cases vs with
   | nil=>cases h
   | cons v vs =>
    obtain ⟨h1,h2⟩:=Bool.and_eq_true_iff.1 (show (kcFit k v && fitL ks vs) = true from h); exact .cons (one h1) (ih vs h2)
 obtain ⟨ag,kk⟩:=kt
 cases ag with
 | true =>
  cases k with
  | agg cs =>
   have:=lst kk cs.toList hf; have:=(VR.agg this.1 this.2:VR σ (.agg _) (.agg cs.toList.toArray))
   simpa [keyAV] using this
  | _=>simp [keyFits] at hf
 | false =>
  match kk,hf with
  | [c],hf =>
   have hf:kcFit c k = true:=by
    cases k <;> exact hf
   have:=one hf
   cases k <;> first | exact this | (cases c <;> cases hf)
theorem entAt_at {b:Nat} {e:Value × AV × Nat}:∀ {es:List (Value × AV × Nat)},entAt es b = some e->∃ i:Nat,es[i]? = some e/\e.2.2 = b/\∀ (j:Nat) (e':Value × AV × Nat),j < i->es[j]? = some e'->e'.2.2 ≠ b
 | [],he=>by cases he
 | e0 :: r,he=>by
  simp only [entAt] at he
  split at he
  ·rename_i h0
   cases he
   exact ⟨0,rfl,h0,λj e' hj=>absurd hj (Nat.not_lt_zero j)⟩
  ·rename_i hne
   obtain ⟨i,a1,a2,a3⟩:=entAt_at he; refine ⟨i + 1,by simpa using a1,a2,λj e' hj hje=>?_⟩
   cases j with
   | zero=>simp at hje; subst hje; exact hne
   | succ j=>exact a3 j e' (by omega) (by simpa using hje)
theorem ok_ent {x:Operand} {x':Opd} {v:AV} {H':List ABlk} (ho:o.op = .entry x) (hx:opd x = some x') (hs:SS σ s a) (h:HR σ H w) (hv:evK (.ent x') s H = some (v,H')):OpOk P o a σ H w v H':=by
 have h1:=get_sound hx hs; simp only [evK] at hv
 generalize get s x' = X at h1 hv
 generalize hU:a.eval x = u at h1
 split at hv
 ·rename_i q
  split at hv
  ·rename_i m since seen last hq
   split at hv
   ·rename_i kt ck es b hm hl
    split at hv
    ·rename_i hck
     split at hv
     ·rename_i e he
      cases hv
      subst hck
      cases h1 with
      | ptr hφ =>
       obtain ⟨g,gm,h2,h3,h4⟩:=h.blk q _ hq; rw [hφ] at h2
       cases h2
       obtain ⟨ms,hg,hmr⟩:=h.mapAt hm h3; obtain ⟨i,hi⟩:=entAt_at he; obtain ⟨hi1,hi2,hi3⟩:=hi; have hk:=congrArg (λl:List Value=>l[i]?) hmr.keys; have hbn:=hmr.borns; simp only [List.getElem?_map,hi1,Option.map_some] at hk; obtain ⟨me,hme,hmk⟩:=Option.map_eq_some_iff.1 hk; have hbi:=congrArg (λl:List Nat=>l[i]?) hbn; simp only [List.getElem?_map,hi1,hme,Option.map_some,Option.some.injEq] at hbi; have hval:VR σ e.2.1 me.val:=hmr.vals.2 i _ _ (by rw [List.getElem?_map,hi1]; rfl) (by rw [List.getElem?_map,hme]; rfl); have hfind:ms.find? (·.born == b) = some me:=by
        rw [<- Array.find?_toList,List.find?_eq_some_iff_getElem]; have hil:=(List.getElem?_eq_some_iff.1 hme).1; refine ⟨by simp [hbi,hi2],i,hil,(List.getElem?_eq_some_iff.1 hme).2,λj hj=>?_⟩; have hjl:j < ms.toList.length:=by omega
        have hlen:es.length = ms.toList.length:=by
         have:=congrArg List.length hbn
         simpa using this.symm
        have hbj:=congrArg (λl:List Nat=>l[j]?) hbn; simp only [List.getElem?_map,gEe hjl,gEe (show j < es.length by omega),Option.map_some,Option.some.injEq] at hbj; have:=hi3 j _ hj (gEe (by omega)); have hb2:ms[j].born = (es[j]'(by omega)).2.2:=by simpa using hbj
        simp [hb2,this]
       have hback:seen.toArray.back? = some b:=by rw [List.back?_toArray]; exact hl
       have hkey:VR σ (keyAV e.1) me.key:=by
        rw [hmk]; exact keyAV_VR (hmr.fits e (List.mem_of_getElem? hi1))
       refine .pure h (u:=.tuple #[me.key,me.val]) ?_ (VR.tup (VRs.cons hkey (VRs.cons hval VRs.nil)).1 (VRs.cons hkey (VRs.cons hval VRs.nil)).2); simp [execOp,ho,hU,Instr.entry,getObj,Sem.run,h4,hg,hback,hfind,Result.andThen]
     ·cases hv
    ·cases hv
   ·cases hv
  ·cases hv
 ·cases hv
theorem next_sound {x:Operand} {q m since last:Nat} {seen:List Nat} {kt:KT} {ck:Nat} {es:List (Value × AV × Nat)} (h:HR σ H w) (hx:VR σ (.ptr q 0) (a.eval x)) (hq:H[q]? = some (.iter m since seen last)) (hm:H[m]? = some (.map kt ck es))
 (ho:o.op = .next x false) (hold:∀ e ∈ es,e.2.2 < since) (hsl:since<=last) :
 ((∀ e ∈ es,e.2.2 ∈ seen)/\(execOp a.eval o).run P w = .ok (.value (.tuple #[.bool false])) w) \/
 ∃ e ∈ es,e.2.2 ∉ seen/\∃ w' u v,(execOp a.eval o).run P w = .ok (.value (.tuple #[.bool true,u,v])) w'/\Ext σ H w σ (H.set q (.iter m since (seen ++ [e.2.2]) ck)) w'/\HR σ (H.set q (.iter m since (seen ++ [e.2.2]) ck)) w':=by
 cases hU:a.eval x with
 | pointer p =>
  rw [hU] at hx
  cases hx with
  | ptr hφ =>
   rename_i g
   obtain ⟨g',gm,h2,h3,h4⟩:=h.blk q _ hq; rw [hφ] at h2
   cases h2
   obtain ⟨ms,hg,hmr⟩:=h.mapAt hm h3; have hborn:∀ e' ∈ ms.toList,∃ e ∈ es,e.2.2 = e'.born:=λe' he'=>by
    have:e'.born ∈ es.map (·.2.2):=by rw [<- hmr.borns]; exact List.mem_map.2 ⟨e',he',rfl⟩
    obtain ⟨e,h1,h2⟩:=List.mem_map.1 this; exact ⟨e,h1,h2⟩
   have hborn':∀ e ∈ es,∃ e' ∈ ms.toList,e'.born = e.2.2:=λe he=>by
    have:e.2.2 ∈ ms.toList.map (·.born):=by rw [hmr.borns]; exact List.mem_map.2 ⟨e,he,rfl⟩
    obtain ⟨e',h1,h2⟩:=List.mem_map.1 this; exact ⟨e',h1,h2⟩
   rcases run_next_at (P:=P) w o.type g gm since last seen.toArray ms ck h4 hg (λx hx=>by obtain ⟨e,h1,h2⟩:=hborn x hx; rw [<- h2]; exact hold e h1) hsl with ⟨h5,h6⟩ | ⟨e',he',w1,hw1,h6⟩
   ·refine .inl ⟨λe he=>?_,by simp [execOp,ho,hU,h6]⟩
    obtain ⟨e',h1,h7⟩:=hborn' e he; rw [<- h7]; have h8:e' ∉ (leftOf ms seen.toArray).toList:=λhc=>by
     have:=List.length_pos_of_mem hc; simp at this; omega
    simp only [leftOf,Array.toList_filter,List.mem_filter,h1,true_and] at h8
    simpa using h8
   ·have he2 : e' ∈ ms.toList /\ e'.born ∉ seen := by
     simp only [leftOf,Array.toList_filter,List.mem_filter] at he'; exact ⟨he'.1,by simpa using he'.2⟩
    obtain ⟨e,h7,h8⟩:=hborn e' he2.1; have hql:q < H.length:=(List.getElem?_eq_some_iff.1 hq).1; have hset:∀ b',b' ≠ q->(H.set q (.iter m since (seen ++ [e.2.2]) ck))[b']? = H[b']?:=λb' hne=>by rw [List.getElem?_set_ne (Ne.symm hne)]
    have hgl:=lt_of_heap h4; have hhp:w1.heap = w.heap:=by
     rcases hw1 with h | h
     ·exact congrArg World.heap h
     ·exact (congrArg World.heap h).trans rfl
    have hw2:∀ k:Nat,w1.heap[k]? = w.heap[k]?:=λk=>by rw [hhp]
    have hos:w1.os = w.os:=by
     rcases hw1 with h | h
     ·exact congrArg World.os h
     ·exact (congrArg World.os h).trans rfl
    have htp:w1.tape = w.tape:=by
     rcases hw1 with h | h
     ·exact congrArg World.tape h
     ·exact (congrArg World.tape h).trans rfl
    have hout:w1.output = w.output:=by
     rcases hw1 with h | h
     ·exact congrArg World.output h
     ·exact (congrArg World.output h).trans rfl
    have hs2:w1.heap.size = w.heap.size:=by rw [hhp]
    have hoth:∀ k,k ≠ g->(Go.ChangeMaps.setBlock w1 g (.mapIter (some gm) since (seen.toArray.push e'.born) ck)).heap[k]? = w.heap[k]?:=λk hk=>by
     rw [<- hw2 k]; simp [Go.ChangeMaps.setBlock,Array.getElem?_setIfInBounds,Ne.symm hk]
    have hat:(Go.ChangeMaps.setBlock w1 g (.mapIter (some gm) since (seen.toArray.push e'.born) ck)).heap[g]? = some (.mapIter (some gm) since (seen ++ [e.2.2]).toArray ck):=by
     rw [h8]; simp [Go.ChangeMaps.setBlock,hs2,hgl]
    have hMg:∀ a:Addr,a.block = g->σ.M a = none:=λa ha=>by
     cases hM:σ.M a with
     | none=>rfl
     | some v =>
      have:=h.mem.cell a v hM; simp [World.cell?,ha,h4] at this
    refine .inr ⟨e,h7,by rw [h8]; exact he2.2,Go.ChangeMaps.setBlock w1 g (.mapIter (some gm) since (seen.toArray.push e'.born) ck),e'.key,e'.val,by simp [execOp,ho,hU,h6],?_,?_⟩
    ·refine ⟨.refl σ,hos,htp,hout,by simp [Go.ChangeMaps.setBlock,hs2],λk hk hf=>hoth k λe=>hf ⟨q,_,_,hq,rfl,hφ,by simp [conc,e]⟩,?_,λ_ h=>absurd rfl h,λb hb=>⟨?_,λ_=>rfl⟩⟩
     ·rintro k ⟨b',blk,v',hb',hl,hφ',hc'⟩
      by_cases e':b' = q
      ·subst e'
       rw [List.getElem?_set_self hql] at hb'
       cases hb'
       exact .inl ⟨b',_,v',hq,rfl,hφ',hc'⟩
      ·rw [hset b' e'] at hb'
       exact .inl ⟨b',blk,v',hb',hl,hφ',hc'⟩
     ·have:b ≠ q:=λe=>by rw [e,hq] at hb; cases hb
      rw [hset b this]; exact hb
    ·refine h.turn (.refl σ) q (.iter m since (seen ++ [e.2.2]) ck) hset (List.getElem?_set_self hql) (by simp) (fun _ _ _ => rfl)
      ⟨λa v hM=>?_,h.mem.gl,h.mem.sz.to λt ht c e f hc=>⟨c,e,f,?_,rfl⟩⟩ ⟨g,gm,hφ,h3,hat⟩ λb' k v g' hb hk hl hv hcv=>?_
     ·have hne:a.block ≠ g:=λe=>by rw [hMg a e] at hM; cases hM
      have:=h.mem.cell a v hM
      unfold World.cell? at this ⊢
      rw [hoth _ hne]; exact this
     ·rw [hoth]; exact hc
      intro e'
      rw [e',h4] at hc; cases hc
     ·have hne:g' ≠ g:=λe=>hb (h.inj b' q k _ v _ g' hk hq hl rfl hv hφ hcv (by simp [conc,e]))
      refine ⟨hoth g' hne,λ_ _=>rfl,λv0 _ hv0=>?_⟩; rw [show ABlk.ver (.iter m since (seen ++ [e.2.2]) ck) = 0 from rfl,hφ] at hv0
      cases hv0
      simp [conc]; exact λe=>hne e.symm
 | _=>rw [hU] at hx; cases hx
end
section
variable {P:Program} {o:Oper} {a:Act} {σ:Sg} {H:List ABlk} {w:World} {s:List AV} {hint:Nat->Option Md}
theorem elOf_spec {t e:TypeId} (h:elOf P t = some e):P.underlying t = some (.slice e):=by
 unfold elOf at h
 simp only [Option.bind_eq_some_iff] at h; obtain ⟨d,hd,h⟩:=h
 split at h
 ·cases h; exact hd
 ·cases h
theorem isStr_true {x:AV} (h:isStr x = true):∃ b,x = .d (.v (.string b)):=by
 unfold isStr at h
 split at h
 ·exact ⟨_,rfl⟩
 ·cases h
theorem isStr_false {x:AV} (h:isStr x = false):∀ b,x ≠ .d (.v (.string b)):=λb e=>by
 subst e; simp [isStr] at h
theorem isStrT_spec {t:TypeId} (h:isStrT P t = true):P.underlying t = some .string:=by
 unfold isStrT at h; split at h
 ·assumption
 ·cases h
theorem op_sound {k:K} {v:AV} {H':List ABlk} (hc:compK P hint o = some k) (hs:SS σ s a) (h:HR σ H w) (hv:evK k s H = some (v,H')):OpOk P o a σ H w v H':=by
 unfold compK at hc
 split at hc
 case h_1 x ho =>
  split at hc
  ·cases hc
  ·rename_i y hy
   split at hc
   ·rename_i e _ he
    simp only [Option.map_eq_some_iff] at hc; obtain ⟨n,hn,rfl⟩:=hc; simp only [evK] at hv
    split at hv
    ·rename_i e1
     cases hv
     have h1:=get_sound hy hs; rw [e1] at h1; obtain ⟨σ',y1,y2,y3⟩:=h.newRow0 e n h1.esl_inv; exact ⟨σ',w,_,.inl (by simp [execOp,ho]),y1,y2,y3⟩
    ·rename_i e1
     cases hv
     have h1:=ok_mv (P:=P) (.inl ho) hy hs h
     rwa [e1] at h1
    ·cases hv
   ·cases hc
    simp only [evK] at hv
    cases hv
    exact ok_mv (.inl ho) hy hs h
 case h_2 x ho =>
  split at hc
  ·cases hc
  ·rename_i y hy
   split at hc
   ·rename_i e _ he
    simp only [Option.map_eq_some_iff] at hc; obtain ⟨n,hn,rfl⟩:=hc; simp only [evK] at hv
    split at hv
    ·rename_i e1
     cases hv
     have h1:=get_sound hy hs; rw [e1] at h1; obtain ⟨σ',y1,y2,y3⟩:=h.newRow0 e n h1.esl_inv; exact ⟨σ',w,_,.inl (by simp [execOp,ho]),y1,y2,y3⟩
    ·rename_i e1
     cases hv
     have h1:=ok_mv (P:=P) (.inr ho) hy hs h
     rwa [e1] at h1
    ·cases hv
   ·cases hc
    simp only [evK] at hv
    cases hv
    exact ok_mv (.inr ho) hy hs h
 case h_3 c x y ho =>
  split at hc
  ·rename_i c' x' y' hc' hx hy
   cases hc
   simp only [evK] at hv
   split at hv
   ·rename_i t e1
    cases hv
    exact ok_pick ho hc' hx hy hs h e1
   ·cases hv
  ·cases hc
 case h_4 t ho =>
  split at hc
  ·rename_i hbl
   cases hc
   rw [Bool.and_eq_true] at hbl; simp only [evK] at hv
   cases hv
   exact ok_alb ho hbl.1 h
  ·simp only [Option.map_eq_some_iff] at hc
   obtain ⟨z,hz,rfl⟩:=hc; simp only [evK] at hv
   cases hv
   exact ok_alloc ho hz h
 case h_5 t x ho =>
  simp only [Option.map_eq_some_iff] at hc; obtain ⟨y,hy,rfl⟩:=hc; simp only [evK] at hv
  split at hv
  ·rename_i hsh
   cases hv
   exact ok_box ho hy hs h hsh
  ·cases hv
 case h_6 t ps ho =>
  split at hc
  ·rename_i fs z ht hz
   split at hc
   ·rename_i hall
    simp only [Option.map_eq_some_iff] at hc; obtain ⟨ps',hps,rfl⟩:=hc; simp only [evK] at hv
    split at hv
    ·rename_i zs hf
     cases hv
     exact ok_bd ho ht hz hall hps hs h hf
    ·cases hv
   ·cases hc
  ·rename_i n e z ht hz
   split at hc
   ·rename_i sz hsz
    simp only [Option.map_eq_some_iff] at hc; obtain ⟨ps',hps,rfl⟩:=hc; simp only [evK] at hv
    split at hv
    ·rename_i zs hf
     cases hv
     exact ok_bdA ho ht hz hsz hps hs h hf
    ·cases hv
   ·cases hc
  ·cases hc
 case h_7 t n ps ho =>
  split at hc
  ·rename_i e he
   split at hc
   ·rename_i sz l z hsz hl hz
    split at hc
    ·rename_i hcond
     cases hc
     exact ok_bs ho (elOf_spec he) hsz hz hl hcond hs h hv
    ·cases hc
   ·cases hc
  ·cases hc
 case h_8 t x ho =>
  split at hc
  ·rename_i y n g hy hn hg
   split at hc
   ·rename_i hg1
    cases hc
    simp only [evK] at hv
    split at hv
    ·rename_i cs hl
     split at hv
     ·rename_i v' ho'
      cases hv
      exact ok_load ho hy hn hg hg1 hs h hl ho'
     ·cases hv
    ·cases hv
   ·cases hc
  ·cases hc
 case h_9 t x y ho =>
  split at hc
  ·rename_i x' y' n hx hy hn
   cases hc
   simp only [evK] at hv
   split at hv
   ·rename_i hcc
    simp only [Bool.and_eq_true,beq_iff_eq] at hcc
    split at hv
    ·rename_i H1 hst
     cases hv
     exact ok_store ho hx hy hn hs h hcc.1 hcc.2 hst
    ·cases hv
   ·cases hv
  ·cases hc
 case h_10 x ho =>
  simp only [Option.map_eq_some_iff] at hc; obtain ⟨y,hy,rfl⟩:=hc; simp only [evK] at hv
  split at hv
  ·rename_i b n e1
   cases hv
   rw [<- e1]; exact ok_nc ho hy hs h (.inl ⟨b,n,e1⟩)
  ·rename_i cs e1
   cases hv
   rw [<- e1]; exact ok_nc ho hy hs h (.inr (.inl ⟨cs,e1⟩))
  ·rename_i f cs e1
   cases hv
   rw [<- e1]; exact ok_nc ho hy hs h (.inr (.inr ⟨f,cs,e1⟩))
  ·cases hv
 case h_11 op t x y t' ho =>
  split at hc
  ·rename_i x' y' hx hy
   split at hc
   ·rename_i hb
    split at hc
    ·cases hc
     simp only [evK] at hv
     split at hv
     ·rename_i v' e1
      cases hv
      exact ok_eqs (neg:=false) ho (isBoolT_spec hb) hx hy hs h e1
     ·cases hv
    ·cases hc
     simp only [evK] at hv
     split at hv
     ·rename_i v' e1
      cases hv
      exact ok_eqs (neg:=true) ho (isBoolT_spec hb) hx hy hs h e1
     ·cases hv
    ·cases hc
   ·split at hc
    ·rename_i hp
     split at hc
     ·cases hc
      simp only [evK] at hv
      split at hv
      ·rename_i v' e1
       cases hv
       exact ok_eqp (neg:=false) ho (isPtrT_spec hp) hx hy hs h e1
      ·cases hv
     ·cases hc
      simp only [evK] at hv
      split at hv
      ·rename_i v' e1
       cases hv
       exact ok_eqp (neg:=true) ho (isPtrT_spec hp) hx hy hs h e1
      ·cases hv
     ·cases hc
    ·split at hc
     ·rename_i hw
      split at hc
      ·rename_i kt hkt
       cases hc
       exact ok_eqg (neg:=false) ho hw hkt hx hy hs h hv
      ·rename_i kt hkt
       cases hc
       exact ok_eqg (neg:=true) ho hw hkt hx hy hs h hv
      ·cases hc
     ·split at hc
      ·rename_i hel
       split at hc
       ·rename_i hnl
        split at hc
        ·cases hc; exact ok_isnS (neg:=false) ho hel hnl hx hs h hv
        ·cases hc; exact ok_isnS (neg:=true) ho hel hnl hx hs h hv
        ·cases hc
       ·cases hc
      ·split at hc
       ·rename_i hel
        split at hc
        ·rename_i hnl
         split at hc
         ·cases hc; exact ok_isnM (neg:=false) ho hel hnl hx hs h hv
         ·cases hc; exact ok_isnM (neg:=true) ho hel hnl hx hs h hv
         ·cases hc
        ·cases hc
       ·split at hc
        ·rename_i hel
         split at hc
         ·cases hc; exact ok_eqi (neg:=false) ho hel hx hs h hv
         ·cases hc; exact ok_eqi (neg:=true) ho hel hx hs h hv
         ·cases hc
        ·cases hc
         simp only [evK] at hv
         split at hv
         ·rename_i v' e1
          cases hv
          exact ok_bin ho hx hy hs h e1
         ·cases hv
  ·cases hc
 case h_12 op t x ho =>
  simp only [Option.map_eq_some_iff] at hc; obtain ⟨y,hy,rfl⟩:=hc; simp only [evK] at hv
  split at hv
  ·rename_i v' e1
   cases hv
   exact ok_un ho hy hs h e1
  ·cases hv
 case h_13 r t x ho =>
  split at hc
  ·rename_i k' x' hk hx
   split at hc
   ·rename_i hr
    cases hc
    simp only [evK] at hv
    split at hv
    ·rename_i e1
     cases hv
     exact ok_cvi ho hr (isIntT_spec hk) hx hs h e1
    ·cases hv
   ·cases hc
  ·rename_i x' _ hx
   split at hc
   ·rename_i hbt
    cases hc
    simp only [Bool.and_eq_true] at hbt; exact ok_b2s ho hbt.1 (isStrT_spec hbt.2) hx hs h hv
   ·split at hc
    ·rename_i hbt
     cases hc
     simp only [Bool.and_eq_true] at hbt; exact ok_s2b ho (isStrT_spec hbt.1) hbt.2 hx hs h hv
    ·cases hc
  ·cases hc
 case h_14 t x f ho =>
  split at hc
  ·rename_i fs x' ht hx
   split at hc
   ·rename_i fl hf
    split at hc
    ·rename_i n hn
     cases hc
     simp only [evK] at hv
     split at hv
     ·rename_i v' e1
      cases hv
      exact ok_fa ho ht hf hn hx hs h e1
     ·cases hv
    ·cases hc
   ·cases hc
  ·cases hc
 case h_15 t x f ho =>
  split at hc
  ·rename_i fs x' ht hx
   split at hc
   ·rename_i fl hf
    split at hc
    ·rename_i n g hn hg
     split at hc
     ·cases hc
      simp only [evK] at hv
      split at hv
      ·rename_i cs e1
       split at hv
       ·rename_i hle
        split at hv
        ·rename_i v' e2
         cases hv
         exact ok_fld ho ht hf hn hg hx hs h e1 hle e2
        ·cases hv
       ·cases hv
      ·cases hv
     ·cases hc
    ·cases hc
   ·cases hc
  ·cases hc
 case h_16 t x y ho =>
  split at hc
  ·rename_i e x' y' ht hx hy
   simp only [Option.map_eq_some_iff] at hc; obtain ⟨sz,hz,rfl⟩:=hc; simp only [evK] at hv
   split at hv
   ·rename_i e1
    split at hv
    ·rename_i v' e2
     cases hv
     exact ok_ia ho ht hz hx hy hs h e1 e2
    ·cases hv
   ·cases hv
  ·rename_i n e x' y' ht hx hy
   simp only [Option.map_eq_some_iff] at hc; obtain ⟨sz,hz,rfl⟩:=hc; simp only [evK] at hv
   split at hv
   ·rename_i e1
    split at hv
    ·rename_i hcc
     split at hv
     ·rename_i v' e2
      cases hv
      exact ok_iar ho ht hz hx hy hs h e1 hcc e2
     ·cases hv
    ·cases hv
   ·cases hv
  ·cases hc
 case h_17 t x y ho =>
  split at hc
  ·rename_i x' y' ht hx hy
   cases hc
   simp only [evK] at hv
   split at hv
   ·rename_i e1 e2
    split at hv
    ·rename_i hcc
     cases hv
     exact ok_ix ho ht hx hy hs h e1 e2 hcc
    ·cases hv
   ·cases hv
  ·rename_i len e x' y' ht hx hy
   split at hc
   ·rename_i hz hg
    cases hc
    simp only [evK] at hv
    split at hv
    ·rename_i e1 e2
     split at hv
     ·rename_i hcc
      cases hv
      exact ok_ixv ho ht hz hg hx hy hs h e1 e2 hcc
     ·cases hv
    ·cases hv
   ·cases hc
  ·cases hc
 case h_18 t x lo hi ho =>
  split at hc
  ·rename_i x' lo' hi' ht hx hlo hhi
   cases hc
   simp only [evK] at hv
   split at hv
   ·rename_i hstr
    split at hv
    ·rename_i n hn
     split at hv
     ·rename_i l hh hl hh'
      split at hv
      ·rename_i v' e2
       cases hv
       exact ok_sli ho hx hlo hhi hs h hn hl hh' e2 (.inl ⟨ht,isStr_true hstr⟩)
      ·cases hv
     ·cases hv
    ·cases hv
   ·cases hv
  ·rename_i e x' lo' hi' ht hx hlo hhi
   simp only [Option.map_eq_some_iff] at hc; obtain ⟨sz,hz,rfl⟩:=hc; simp only [evK] at hv
   split at hv
   ·rename_i hstr
    split at hv
    ·rename_i n hn
     split at hv
     ·rename_i l hh hl hh'
      split at hv
      ·rename_i v' e2
       cases hv
       exact ok_sli ho hx hlo hhi hs h hn hl hh' e2 (.inr ⟨e,ht,hz,isStr_false hstr⟩)
      ·cases hv
     ·cases hv
    ·cases hv
   ·cases hv
  ·rename_i r x' lo' hi' ht hx hlo hhi
   split at hc
   ·rename_i n e har
    simp only [Option.map_eq_some_iff] at hc; obtain ⟨sz,hz,rfl⟩:=hc; exact ok_sla ho ht (arT_spec har) hz hx hlo hhi hs h hv
   ·cases hc
  ·rename_i n e x' lo' hi' ht hx hlo hhi
   simp only [Option.map_eq_some_iff] at hc; obtain ⟨sz,hz,rfl⟩:=hc; exact ok_slb ho ht hz hx hlo hhi hs h hv
  ·cases hc
 case h_19 x i ho =>
  simp only [Option.map_eq_some_iff] at hc; obtain ⟨y,hy,rfl⟩:=hc; simp only [evK] at hv
  split at hv
  ·rename_i cs e1
   split at hv
   ·rename_i v' e2
    cases hv
    exact ok_ext ho hy hs h e1 e2
   ·cases hv
  ·cases hv
 case h_20 f first caps ho =>
  split at hc
  ·rename_i h0
   simp only [Option.map_eq_some_iff] at hc; obtain ⟨ys,hy,rfl⟩:=hc; simp only [evK] at hv
   cases hv
   exact ok_mkf ho h0 hy hs h
  ·split at hc
   ·rename_i h0
    simp only [Option.map_eq_some_iff] at hc; obtain ⟨ys,hy,rfl⟩:=hc; simp only [evK] at hv
    cases hv
    exact ok_mkb ho h0 hy hs h
   ·cases hc
 case h_21 c ho =>
  split at hc
  ·rename_i f hcal
   split at hc
   ·simp only [Option.map_eq_some_iff] at hc
    obtain ⟨ys,hy,rfl⟩:=hc; simp [evK] at hv
   ·split at hc
    ·rename_i hext
     split at hc
     ·rename_i x y hA
      split at hc
      ·rename_i x' y' hx hy
       cases hc
       exact ok_ixb ho hcal hA hext hx hy hs h hv
      ·cases hc
     ·cases hc
    ·cases hc
  ·simp only [Option.map_eq_some_iff] at hc
   obtain ⟨ys,hy,rfl⟩:=hc; simp [evK] at hv
  ·rename_i hcal
   split at hc
   ·rename_i t x hT hA
    split at hc
    ·rename_i x' ht hx
     cases hc
     simp only [evK] at hv
     split at hv
     ·rename_i hstr
      split at hv
      ·rename_i n hn
       cases hv
       exact ok_len ho hcal hT hA (.inl ht) hx hs h hn ⟨λ_=>isStr_true hstr,λ⟨e,he⟩=>by rw [ht] at he; cases he⟩
      ·cases hv
     ·cases hv
    ·rename_i e x' ht hx
     cases hc
     simp only [evK] at hv
     split at hv
     ·rename_i hstr
      split at hv
      ·rename_i n hn
       cases hv
       exact ok_len ho hcal hT hA (.inr ⟨e,ht⟩) hx hs h hn ⟨λhe=>(by rw [ht] at he; cases he),λ_=>isStr_false hstr⟩
      ·cases hv
     ·cases hv
    ·rename_i k e x' ht hx
     cases hc
     exact ok_mlen ho hcal hT hA ht hx hs h hv
    ·cases hc
   ·cases hc
  ·rename_i hcal
   simp only [Option.map_eq_some_iff] at hc; obtain ⟨ys,hy,rfl⟩:=hc; simp only [evK] at hv
   split at hv
   ·rename_i e1
    cases hv
    exact ok_mn ho hcal hy hs h e1
   ·cases hv
  ·rename_i hcal
   simp only [Option.map_eq_some_iff] at hc; obtain ⟨ys,hy,rfl⟩:=hc; simp only [evK] at hv
   split at hv
   ·rename_i e1
    cases hv
    exact ok_mx ho hcal hy hs h e1
   ·cases hv
  ·rename_i hcal
   split at hc
   ·rename_i t tx x y hT hA
    split at hc
    ·rename_i e x' y' he hx hy
     split at hc
     ·rename_i sz by' z hz hb hzz
      split at hc
      ·rename_i hcond
       cases hc
       obtain ⟨c1,c2,c3⟩:=hcond; exact ok_app ho hcal hT hA (elOf_spec he) hz hb hzz c2 c1 (by
        rw [Bool.or_eq_true] at c3; exact c3.imp id isStrT_spec) hx hy hs h hv
      ·cases hc
     ·cases hc
    ·cases hc
   ·cases hc
  ·rename_i hcal
   split at hc
   ·rename_i t tx x y hT hA
    split at hc
    ·rename_i e x' y' he hx hy
     split at hc
     ·rename_i sz hz
      split at hc
      ·rename_i hcond
       cases hc
       obtain ⟨c1,c3⟩:=hcond; exact ok_cpy ho hcal hT hA (elOf_spec he) hz c1 (by
        rw [Bool.or_eq_true] at c3; exact c3.imp id isStrT_spec) hx hy hs h hv
      ·cases hc
     ·cases hc
    ·cases hc
   ·cases hc
  ·rename_i hcal
   split at hc
   ·rename_i t t2 x y hT hA
    split at hc
    ·rename_i kt z x' y' ht hx hy
     cases hc
     exact ok_del ho hcal hT hA ht hx hy hs h hv
    ·cases hc
   ·cases hc
  ·split at hc
   ·cases hc
    simp [evK] at hv
   ·cases hc
  ·cases hc
 case h_22 t x y ho =>
  split at hc
  ·rename_i e x' y' he hx hy
   split at hc
   ·rename_i sz by' z hz hb hzz
    split at hc
    ·rename_i hcond
     cases hc
     exact ok_mks ho (elOf_spec he) hz hb hzz hcond.2.1 hcond.1 hcond.2.2 hx hy hs h hv
    ·cases hc
   ·cases hc
  ·cases hc
 case h_23 t ho =>
  simp only [Option.map_eq_some_iff] at hc; obtain ⟨⟨kt,z⟩,ht,rfl⟩:=hc; simp only [evK] at hv
  cases hv
  exact ok_mkm ho (.inl rfl) ht h
 case h_24 t k n ho =>
  simp only [Option.map_eq_some_iff] at hc; obtain ⟨⟨kt,z⟩,ht,rfl⟩:=hc; simp only [evK] at hv
  cases hv
  exact ok_mkm ho (.inr ⟨_,_,rfl⟩) ht h
 case h_25 t x y okk ho =>
  split at hc
  ·rename_i kt z x' y' ht hx hy
   cases hc
   exact ok_lk ho ht hx hy hs h hv
  ·cases hc
 case h_26 t x y q ho =>
  split at hc
  ·rename_i kt z x' y' q' ht hx hy hq
   cases hc
   exact ok_mu (.inl ho) ht hx hy hq hs h hv
  ·cases hc
 case h_27 t x y q ho =>
  split at hc
  ·rename_i kt z x' y' q' ht hx hy hq
   cases hc
   exact ok_mu (.inr ho) ht hx hy hq hs h hv
  ·cases hc
 case h_28 t x y ho =>
  split at hc
  ·rename_i kt z x' y' ht hx hy
   cases hc
   exact ok_me ho ht hx hy hs h hv
  ·cases hc
 case h_29 t x y q ho =>
  split at hc
  ·rename_i x' y' q' hx hy hq
   cases hc
   exact ok_mes ho hx hy hq hs h hv
  ·cases hc
 case h_30 t x ho =>
  split at hc
  ·rename_i ht
   simp only [Option.map_eq_some_iff] at hc; obtain ⟨x',hx,rfl⟩:=hc; simp only [evK] at hv
   cases hv
   exact ok_mki ho ht hx hs h
  ·cases hc
 case h_31 x xt t okk ho =>
  split at hc
  ·rename_i x' z hx hz
   split at hc
   ·rename_i ht
    cases hc
    exact ok_tas ho ht hz hx hs h hv
   ·cases hc
  ·cases hc
 case h_32 t x ho =>
  split at hc
  ·rename_i ht
   simp only [Option.map_eq_some_iff] at hc; obtain ⟨x',hx,rfl⟩:=hc; exact ok_rng ho ht hx hs h hv
  ·cases hc
 case h_33 x ho =>
  simp only [Option.map_eq_some_iff] at hc; obtain ⟨x',hx,rfl⟩:=hc; simp [evK] at hv
 case h_34 x ho =>
  simp only [Option.map_eq_some_iff] at hc; obtain ⟨x',hx,rfl⟩:=hc; exact ok_ent ho hx hs h hv
 all_goals cases hc
end
section
variable {P:Program} {hint:Nat->Option Md}
structure ExtN (nb:Nat) (σ:Sg) (H:List ABlk) (w:World) (σ':Sg) (H':List ABlk) (w':World):Prop where
 M:∀ a v,σ.M a = some v->σ'.M a = some v
 φ:∀ b n v,b < nb->σ.φ b n = some v->σ'.φ b n = some v
 os:w'.os = w.os
 tape:w'.tape = w.tape
 output:w'.output = w.output
 size:w.heap.size<=w'.heap.size
 frame:∀ k,k < w.heap.size->¬ foot σ H k->w'.heap[k]? = w.heap[k]?
 foot:∀ k,foot σ' H' k->foot σ H k\/w.heap.size<=k
 new:∀ a,σ'.M a ≠ σ.M a->Go.Proofs.YtofpekbidngnfaaGreatDoor.foot σ H a.block\/w.heap.size<=a.block
 dead:∀ b:Nat,b < nb->H[b]? = some .dead->H'[b]? = some .dead/\∀ n,σ'.φ b n = σ.φ b n
 D:σ'.D = σ.D
theorem Ext.toN {σ σ':Sg} {H H':List ABlk} {w w':World} (h:Ext σ H w σ' H' w') (nb:Nat):ExtN nb σ H w σ' H' w':=
 ⟨h.le.M,λ_ _ _ _ hv=>h.le.φ _ _ _ hv,h.os,h.tape,h.output,h.size,h.frame,h.foot,h.new,λb _ hb=>h.dead b hb,h.le.D⟩
theorem ExtN.refl (nb:Nat) (σ:Sg) (H:List ABlk) (w:World):ExtN nb σ H w σ H w:=(Ext.refl σ H w).toN nb
theorem ExtN.trans {nb:Nat} {σ σ' σ'':Sg} {H H' H'':List ABlk} {w w' w'':World} (h:ExtN nb σ H w σ' H' w') (k:ExtN nb σ' H' w' σ'' H'' w''):ExtN nb σ H w σ'' H'' w'':=by
 refine ⟨λa v x=>k.M _ _ (h.M _ _ x),λb n v hb x=>k.φ _ _ _ hb (h.φ _ _ _ hb x),k.os.trans h.os,k.tape.trans h.tape,k.output.trans h.output,Nat.le_trans h.size k.size,λi hi hf=>?_,λi hi=>?_,λa ha=>?_,λb hn hb=>?_,k.D.trans h.D⟩
 ·rw [k.frame i (Nat.lt_of_lt_of_le hi h.size) (λhf'=>?_),h.frame i hi hf]
  rcases h.foot i hf' with h1 | h1
  ·exact hf h1
  ·omega
 ·rcases k.foot i hi with h1 | h1
  ·exact h.foot i h1
  ·exact .inr (Nat.le_trans h.size h1)
 ·by_cases e:σ''.M a = σ'.M a
  ·exact h.new a (by rw [<- e]; exact ha)
  ·rcases k.new a e with h1 | h1
   ·exact h.foot _ h1
   ·exact .inr (Nat.le_trans h.size h1)
 ·obtain ⟨h1,h2⟩:=h.dead b hn hb
  obtain ⟨h3,h4⟩:=k.dead b hn h1; exact ⟨h3,λn=>(h4 n).trans (h2 n)⟩
theorem ExtN.full {σ σ':Sg} {H H':List ABlk} {w w':World} (hr:HR σ H w) (h:ExtN H.length σ H w σ' H' w'):Ext σ H w σ' H' w':=
 ⟨⟨h.M, fun b n v hv => h.φ b n v (by
   rcases Nat.lt_or_ge b H.length with hl | hl
   ·exact hl
   ·rw [hr.fresh b n hl] at hv; cases hv) hv,h.D⟩,h.os,h.tape,h.output,h.size,h.frame,h.foot,h.new,λb hb=>h.dead b (List.getElem?_eq_some_iff.1 hb).1 hb⟩
def Lift (nb:Nat) (Q:APost) (σ:Sg) (H:List ABlk) (w:World):Exit->Act->World->Prop:=λe a' w' =>
 ∃ σ' s' H',ExtN nb σ H w σ' H' w'/\HR σ' H' w'/\SS σ' s' a'/\Q e s' H'
theorem Lift.ext {nb:Nat} {Q:APost} {σ σ':Sg} {H H':List ABlk} {w w':World} (h:ExtN nb σ H w σ' H' w') {e:Exit} {a'':Act} {w'':World} (k:Lift nb Q σ' H' w' e a'' w''):Lift nb Q σ H w e a'' w'':=by
 obtain ⟨σ2,s2,H2,h1,h2⟩:=k; exact ⟨σ2,s2,H2,h.trans h1,h2⟩
theorem Lift.mono {nb:Nat} {Q Q':APost} {σ:Sg} {H:List ABlk} {w:World} (hq:∀ e s H,Q e s H->Q' e s H) {e:Exit} {a':Act} {w':World} (k:Lift nb Q σ H w e a' w'):Lift nb Q' σ H w e a' w':=by
 obtain ⟨σ2,s2,H2,h1,h2,h3,h4⟩:=k; exact ⟨σ2,s2,H2,h1,h2,h3,hq _ _ _ h4⟩
theorem guard_sound {σ:Sg} {s:List AV} {a:Act} {ops:Array Oper} {o:Oper} {i:Ins} (hc:compIns P hint ops o = some i) (hs:SS σ s a) {b:Bool} (hw:wanted s i.g = some b) :
 Region.wanted o (yielded ops a.tmps) = b/\i.dst = o.dst/\compK P hint o = some i.k:=by
 unfold compIns at hc
 split at hc
 ·cases hc
 ·rename_i k hk
  split at hc
  ·rename_i hg
   cases hc
   simp [wanted] at hw; exact ⟨by simp [Region.wanted,hg,hw],rfl,hk⟩
  ·rename_i j bb hg
   split at hc
   ·rename_i g hj
    cases hc
    refine ⟨?_,rfl,hk⟩; have hvr:=hs.tmps.getD g undef; simp only [wanted] at hw; simp only [Region.wanted,hg,yielded,hj,Option.bind_some]; have hlt:s.getD g .any ≠ .any->g < a.tmps.size:=λhne=>by
     rcases Nat.lt_or_ge g a.tmps.size with h | h
     ·exact h
     ·exfalso
      apply hne
      have:=hs.tmps.1; simp only [Array.length_toList] at this; simp only [gDd,List.getElem?_eq_none (show s.length<=g by omega),Option.getD_none]
    split at hw
    ·rename_i t e1
     have hl:=hlt (by rw [e1]; simp); rw [e1] at hvr; have hb:=hvr.bool_inv; simp only [gDd,Array.getElem?_toList,Array.getElem?_eq_getElem hl,Option.getD_some] at hb
     cases hw
     simp only [Array.getElem?_eq_getElem hl,hb]
     cases t <;> cases bb <;> rfl
    ·rename_i e1
     have hl:=hlt (by rw [e1]; simp); rw [e1] at hvr
     cases hw
     generalize hu:a.tmps.toList.getD g undef = u at hvr
     cases hvr with
     | tup h1 h2 =>
      rename_i us
      have:us = []:=List.eq_nil_of_length_eq_zero (by simpa using h1.symm); subst this; simp only [gDd,Array.getElem?_toList,Array.getElem?_eq_getElem hl,Option.getD_some] at hu; simp only [Array.getElem?_eq_getElem hl,hu]
      rfl
    ·cases hw
   ·cases hc
theorem undef_sound {σ:Sg}:VR σ (.tup []) undef:=.tup (us:=[]) rfl (λi c u h=>by simp at h)
theorem run_callFunc {f:FuncId} (h:callOk P f = true) (args:Array Value) (w:World):(callFunc f args).run P w = .ok (.enter f args) w:=by
 unfold callOk at h
 split at h
 ·rename_i fn hf
  simp only [Bool.and_eq_true, Bool.not_eq_true', Option.isSome_iff_ne_none, ne_eq] at h; obtain ⟨h1, h2⟩ := h; have h2' : ¬ fn.name = "runtime.NumGoroutine" := by simpa using h2
  simp [callFunc,program,Sem.run,hf,h2',h1]
 ·cases h
theorem invT_spec {m:String} {t:TypeId} {f:FuncId} (h:tbF (invT P m) t = some f):(∀ (u:Value) (w:World) (n:Nat),(method (n + 1) t u m).run P w = .ok (f,u) w)/\callOk P f = true:=by
 have mem:∀ (l:List (TypeId × FuncId)),tbF l t = some f->(t,f) ∈ l:=λl=>by
  induction l with
  | nil=>intro h; cases h
  | cons p l ih =>
   intro h
   simp only [tbF] at h
   split at h
   ·rename_i he
    cases h
    rw [beq_iff_eq] at he; exact List.mem_cons.2 (.inl (by rw [<- he]))
   ·exact List.mem_cons_of_mem _ (ih h)
 have h1:=mem _ h
 unfold invT at h1
 rw [List.mem_filterMap] at h1; obtain ⟨t',_,h1⟩:=h1
 split at h1
 ·rename_i e r hu hm
  split at h1
  ·rename_i f' hp hf
   split at h1
   ·rename_i hok
    cases h1
    refine ⟨λu w n=>?_,hok⟩; simp only [Option.bind_eq_some_iff] at hm; obtain ⟨i,hi,hm⟩:=hm; have hp':r.path = #[]:=by simpa using hp
    simp [method,typeInfo,hi,hm,hp',follow,hf,receiverAt,run_underlying hu,Place.get]
   ·cases h1
  ·cases h1
 ·cases h1
theorem ins_sound {σ:Sg} {s:List AV} {H:List ABlk} {a:Act} {w:World} {ops:Array Oper} {o:Oper} {i:Ins} (hc:compIns P hint ops o = some i) (h:HR σ H w) (hs:SS σ s a)
 {r:List Ins} {Kk:List AV->List ABlk->Prop} (hw:wpIns P (i :: r) s H Kk) {K:Act->World->Prop} {Q:Exit->Act->World->Prop}
 (hK:∀ σ' v u H' w',Ext σ H w σ' H' w'->HR σ' H' w'->VR σ' v u->wpIns P r (setO s o.dst v) H' Kk->K (a.put o.dst u) w') :
 if Region.wanted o (yielded ops a.tmps) then o.wp P a w K Q\/(o.asks P a w/\LetsOut Q) else K (a.put o.dst undef) w:=by
 simp only [wpIns] at hw
 split at hw
 ·rename_i hwt
  obtain ⟨g1,g2,g3⟩:=guard_sound hc hs hwt; rw [g1,if_pos rfl]
  left
  rw [g2] at hw; have call:∀ (f:FuncId) (args:List AV) (vs:List Value),VRs σ args vs->(execOp a.eval o).run P w = .ok (.enter f vs.toArray) w->ACalls P f args H (λv H'=>wpIns P r (setO s o.dst v) H' Kk)->o.wp P a w K Q:=by
   intro f args vs hv hr hA
   unfold Oper.wp
   rw [hr,Oper.upon_enter]; refine (hA σ w vs h hv).mono λe w' he=>?_
   obtain ⟨σ',H',v,u,rfl,x1,x2,x3,x4⟩:=he; exact hK σ' v u H' w' x1 x2 x3 x4
  split at hw
  ·rename_i f args hk
   rw [hk] at g3; have g3':=g3
   unfold compK at g3
   split at g3 <;> (try (repeat' split at g3)) <;> (try (simp only [Option.map_eq_some_iff] at g3)) <;> (try (cases g3; done)) <;> (try (obtain ⟨_,_,g3⟩:=g3; cases g3; done)) <;> (try (simp at g3; done))
   rename_i c ho _ f' hcal hok
   obtain ⟨ys,hy,he⟩:=g3
   cases he
   refine call f _ _ (opds_sound hs hy) ?_ hw; simp [execOp,ho,resolve,hcal,Act.eval,Deferred.ofValue,invoke,run_callFunc hok]
   apply Array.ext'
   simp
  ·rename_i g args hk
   rw [hk] at g3
   unfold compK at g3
   split at g3 <;> (try (repeat' split at g3)) <;> (try (simp only [Option.map_eq_some_iff] at g3)) <;> (try (cases g3; done)) <;> (try (obtain ⟨_,_,g3⟩:=g3; cases g3; done)) <;> (try (simp at g3; done))
   rename_i c ho _ g' hcal
   obtain ⟨ys,hy,he⟩:=g3
   cases he
   split at hw
   ·rename_i f caps e1
    obtain ⟨hok,hw⟩:=hw; have hg:=get_sound (σ:=σ) (s:=s) (a:=a) (x:=.tmp g') (y:=.t g') rfl hs; rw [e1] at hg
    generalize hu:a.eval (.tmp g') = u at hg
    cases hg with
    | fn h1 h2 =>
     rename_i us
     refine call f _ _ ((opds_sound hs hy).append ⟨h1,h2⟩) ?_ hw; simp [execOp,ho,resolve,hcal,hu,Deferred.ofValue,invoke,run_callFunc hok]
   ·rename_i f first e1
    obtain ⟨hok,hw⟩:=hw; have hg:=get_sound (σ:=σ) (s:=s) (a:=a) (x:=.tmp g') (y:=.t g') rfl hs; rw [e1] at hg
    generalize hu:a.eval (.tmp g') = u at hg
    cases hg with
    | fnb h1 h2 =>
     rename_i us
     refine call f _ _ (VRs.append ⟨h1,h2⟩ (opds_sound hs hy)) ?_ hw; simp [execOp,ho,resolve,hcal,hu,Deferred.ofValue,invoke,run_callFunc hok]
   ·exact hw.elim
  ·rename_i tb x args hk
   rw [hk] at g3
   unfold compK at g3
   split at g3 <;> (try (repeat' split at g3)) <;> (try (simp only [Option.map_eq_some_iff] at g3)) <;> (try (cases g3; done)) <;> (try (obtain ⟨_,_,g3⟩:=g3; cases g3; done)) <;> (try (simp at g3; done))
   rename_i c_ ho _ r' m hcal _ _ _ _ hx hl
   cases g3
   split at hw
   ·rename_i t v e1
    split at hw
    ·rename_i f e2
     have hg:=get_sound hx hs; rw [e1] at hg
     generalize hu:a.eval r' = u at hg
     cases hg with
     | ifc hv =>
      rename_i u1
      refine call f _ _ (VRs.cons hv (opds_sound hs hl)) ?_ hw; obtain ⟨q1,q2⟩:=invT_spec e2; have q1':=q1 u1 w (P.types.size + Made.depth - 1); rw [Nat.sub_add_cancel (show 1<=P.types.size + Made.depth from Nat.le_trans (by decide) (Nat.le_add_left Made.depth _))] at q1'; have e0:∀ (l:Array Value),(#[Value.iface t u1] ++ l)[0]? = some (.iface t u1):=λl=>by
       rw [Array.getElem?_append_left (by simp)]; rfl
      have e3:∀ (l:Array Value),(#[Value.iface t u1] ++ l).extract 1 (#[Value.iface t u1] ++ l).size = l:=λl=>by
       apply Array.ext'
       simp
      have e4:#[u1] ++ c_.args.map a.eval = (u1 :: List.map a.eval c_.args.toList).toArray:=by
       apply Array.ext'
       simp
      have e5:(callMethod (.iface t u1) m (c_.args.map a.eval)).run P w = .ok (.enter f (u1 :: List.map a.eval c_.args.toList).toArray) w:=by
       rw [<- e4]; simp only [callMethod]; simp [q1',program,Sem.run]; exact run_callFunc q2 _ _
      have e6:(invoke (.fn (.method m) #[]) (#[Value.iface t u1] ++ c_.args.map a.eval)).run P w = .ok (.enter f (u1 :: List.map a.eval c_.args.toList).toArray) w:=by
       simp only [invoke,e0,e3]; exact e5
      simp only [execOp,ho,resolve,hcal,hu]; exact e6
    ·exact hw.elim
   ·exact hw.elim
  ·split at hw
   ·rename_i v H' hv
    obtain ⟨σ',w',u,hr,x1,x2,x3⟩:=op_sound g3 hs h hv
    unfold Oper.wp
    rcases hr with hr | ⟨hr,rfl⟩
    ·rw [hr,Oper.upon_value]
     exact hK σ' v u H' w' x1 x2 x3 hw
    ·rw [hr,Oper.upon_skip]
     exact hK σ' v undef H' w' x1 x2 x3 hw
   ·exact hw.elim
 ·rename_i hwt
  obtain ⟨g1,g2,g3⟩:=guard_sound hc hs hwt; rw [g1,if_neg (by simp)]; rw [g2] at hw; exact hK σ _ undef H w (.refl ..) h undef_sound hw
 ·exact hw.elim
theorem list_sound {nb:Nat} {ops:Array Oper} {Q:APost}:∀ {os:List Oper} {l:List Ins},compL P hint ops os = some l->∀ {σ0 σ:Sg} {H0 H:List ABlk} {w0 w:World} {s:List AV} {a:Act},
 ExtN nb σ0 H0 w0 σ H w->HR σ H w->SS σ s a->wpIns P l s H (Q .normal)->wpList P ops (Lift nb Q σ0 H0 w0) os a w
 | [],l,hc,σ0,σ,H0,H,w0,w,s,a,hx,h,hs,hw=>by
  simp [compL] at hc; subst hc; exact ⟨σ,s,H,hx,h,hs,hw⟩
 | o :: os,l,hc,σ0,σ,H0,H,w0,w,s,a,hx,h,hs,hw=>by
  simp only [compL] at hc
  split at hc
  ·rename_i i l' e1 e2
   cases hc
   exact ins_sound e1 h hs hw (K:=wpList P ops (Lift nb Q σ0 H0 w0) os) λσ' v u H' w' x1 x2 x3 x4=>list_sound e2 (hx.trans (x1.toN nb)) x2 ((hs.mono x1.le).put o.dst x3) x4
  ·cases hc
inductive RC where
 | t (n:Nat)
 | c (a n:Nat) (g:Bool)
def rcOf (P:Program):ResultVar->Option RC
 | .tmp t=>some (.t t)
 | .cell a t=>match szOf P t,agOf P t with
  | some n,some g=>if g || n == 1 then some (.c a n g) else none
  | _,_=>none
def rcsOf (P:Program):List ResultVar->Option (List RC)
 | []=>some []
 | x :: xs=>match rcOf P x,rcsOf P xs with
  | some r,some rs=>some (r :: rs)
  | _,_=>none
def resC (P:Program) (fn:Func):Option (List RC):=rcsOf P fn.results.toList
@[go_sem] def res1 (s:List AV) (H:List ABlk):RC->Option AV
 | .t n=>some (s.getD n .any)
 | .c a n g=>match loadA H (s.getD a .any) n with
  | some cs=>outA g cs
  | none=>none
@[go_sem] def resL (s:List AV) (H:List ABlk):List RC->Option (List AV)
 | []=>some []
 | r :: rs=>match res1 s H r,resL s H rs with
  | some v,some vs=>some (v :: vs)
  | _,_=>none
@[go_sem] def resA (rs:List RC) (s:List AV) (H:List ABlk):Option AV:=
 match rs with
 | [r]=>res1 s H r
 | rs=>match resL s H rs with
  | some vs=>some (.tup vs)
  | none=>none
def resSem (tmps:Array Value):ResultVar->Sem Value
 | .tmp t=>pure (tmps.getD t undef)
 | .cell p t=>do loadVar t (<- asAddr (tmps.getD p undef))
theorem results_eq (fn:Func) (tmps:Array Value):results fn tmps = (do
 let vs <- fn.results.mapM (resSem tmps)
 pure (if h:vs.size = 1 then vs[0] else .tuple vs)):=by
 have:(λx=>match x with
  | .tmp t=>pure (tmps.getD t undef)
  | .cell a t=>do loadVar t (<- asAddr (tmps.getD a undef)):ResultVar->Sem Value) = resSem tmps:=by
  funext x; cases x <;> rfl
 unfold results
 rw [<- this]
 rfl
theorem res1_sound {x:ResultVar} {r:RC} {σ:Sg} {s:List AV} {H:List ABlk} {a:Act} {v:AV} (hc:rcOf P x = some r) (h:res1 s H r = some v) (hs:SS σ s a) {w:World} (hr:HR σ H w) :
 ∃ u,(resSem a.tmps x).run P w = .ok u w/\VR σ v u:=by
 have g:∀ t,VR σ (s.getD t .any) (a.tmps.getD t undef):=λt=>by
  have:=hs.tmps.getD t undef
  simpa using this
 cases x with
 | tmp t =>
  cases hc
  simp only [res1,Option.some.injEq] at h; subst h; exact ⟨_,rfl,g t⟩
 | cell p t =>
  simp only [resSem]; simp only [rcOf] at hc
  split at hc
  ·rename_i n ag e1 e2
   split at hc
   ·rename_i hg1
    cases hc
    simp only [res1] at h
    split at h
    ·rename_i cs hl
     obtain ⟨ad,us,hu,hrn,hvs,hlen,h1⟩:=loadA_sound (P:=P) hr (g p) hl; obtain ⟨o1,o2⟩:=outA_sound hvs h
     cases ag with
     | true=>exact ⟨.agg us.toArray,by simp only [hu]; simp [asAddr,loadVar,agOf_run e2,szOf_run e1,hrn],o1 rfl⟩
     | false =>
      simp at hg1; subst hg1; obtain ⟨c,rfl,hcell⟩:=h1 rfl; obtain ⟨u,e,hv⟩:=o2 rfl
      cases e
      exact ⟨c,by simp only [hu]; simp [asAddr,loadVar,agOf_run e2,hcell],hv⟩
    ·cases h
   ·cases hc
  ·cases hc
theorem resL_sound {σ:Sg} {s:List AV} {H:List ABlk} {a:Act} (hs:SS σ s a) {w:World} (hr:HR σ H w):∀ {xs:List ResultVar} {rs:List RC} {vs:List AV},rcsOf P xs = some rs->resL s H rs = some vs ->
 ∃ us,(xs.mapM (resSem a.tmps)).run P w = .ok us w/\VRs σ vs us
 | [],rs,vs,hc,h=>by
  cases hc; cases h
  exact ⟨[],rfl,.nil⟩
 | x :: xs,rs,vs,hc,h=>by
  simp only [rcsOf] at hc
  split at hc
  ·rename_i r rs' e1 e2
   cases hc
   simp only [resL] at h
   split at h
   ·rename_i v vs' f1 f2
    cases h
    obtain ⟨u,hu,hv⟩:=res1_sound (P:=P) e1 f1 hs hr; obtain ⟨us,hus,hvs⟩:=resL_sound hs hr e2 f2; exact ⟨u :: us,by rw [List.mapM_cons]; simp [hu,hus],.cons hv hvs⟩
   ·cases h
  ·cases hc
theorem resA_sound {fn:Func} {rs:List RC} {σ:Sg} {s:List AV} {H:List ABlk} {a:Act} {v:AV} (hc:resC P fn = some rs) (h:resA rs s H = some v) (hs:SS σ s a) {w:World} (hr:HR σ H w):∃ u,(results fn a.tmps).run P w = .ok u w/\VR σ v u:=by
 have hlen:∀ {xs:List ResultVar} {rs:List RC},rcsOf P xs = some rs->xs.length = rs.length:=by
  intro xs
  induction xs with
  | nil=>intro rs h; cases h; rfl
  | cons x xs ih =>
   intro rs h
   simp only [rcsOf] at h
   split at h
   ·rename_i r rs' e1 e2; cases h; simp [ih e2]
   ·cases h
 have key:∀ vs us,resL s H rs = some vs->VRs σ vs us->(fn.results.toList.mapM (resSem a.tmps)).run P w = .ok us w ->
  (results fn a.tmps).run P w = .ok (if h:us.length = 1 then us[0] else .tuple us.toArray) w:=by
  intro vs us h1 h2 h3
  rw [results_eq,Array.mapM_eq_mapM_toList]; simp [h3]
 cases rs with
 | nil =>
  simp only [resA,resL,Option.some.injEq] at h; subst h; obtain ⟨us,h1,h2⟩:=resL_sound hs hr hc (show resL s H [] = some [] from rfl); have:=key [] us rfl h2 h1
  match us,h2.1,this,h2 with
  | [],_,this,h2=>exact ⟨_,this,.tup (us:=[]) rfl h2.2⟩
 | cons r rs =>
  cases rs with
  | nil =>
   simp only [resA] at h; have e:resL s H [r] = some [v]:=by simp only [resL,h]
   obtain ⟨us,h1,h2⟩:=resL_sound hs hr hc e; have:=key _ us e h2 h1
   match us,h2.1,this,h2 with
   | [u],_,this,h2=>exact ⟨u,this,h2.2 0 v u rfl rfl⟩
  | cons r' rs =>
   simp only [resA] at h
   split at h
   ·rename_i vs e
    cases h
    obtain ⟨us,h1,h2⟩:=resL_sound hs hr hc e; have hl2:∀ {rs:List RC} {vs:List AV},resL s H rs = some vs->rs.length = vs.length:=by
     intro rs
     induction rs with
     | nil=>intro vs h; cases h; rfl
     | cons x xs ih =>
      intro vs h
      simp only [resL] at h
      split at h
      ·rename_i r rs' e1 e2; cases h; simp [ih e2]
      ·cases h
    have h4:=key _ us e h2 h1; have h5:=hl2 e; have h6:=h2.1; have hne:us.length ≠ 1:=by simp at h5; omega
    rw [dif_neg hne] at h4; exact ⟨_,h4,.tup h2.1 h2.2⟩
   ·cases h
theorem ACalls.mono {f:FuncId} {args:List AV} {H:List ABlk} {R R':AV->List ABlk->Prop} (h:ACalls P f args H R) (hr:∀ v H',R v H'->R' v H'):ACalls P f args H R':=by
 intro σ w vs h1 h2
 refine (h σ w vs h1 h2).mono λe w' he=>?_
 obtain ⟨σ',H',v,u,e1,x1,x2,x3,x4⟩:=he; exact ⟨σ',H',v,u,e1,x1,x2,x3,hr _ _ x4⟩
mutual
def refs:AV->List Nat
 | .ptr b _ | .gsl b _ _ | .hsl b _ _ _ _ | .mp b=>[b]
 | .agg cs | .tup cs | .fn _ cs | .fnb _ cs=>refs.refsL cs
 | .ifc _ v=>refs v
 | _=>[]
def refs.refsL:List AV->List Nat
 | []=>[]
 | c :: cs=>refs c ++ refs.refsL cs
end
def ABlk.refs:ABlk->List Nat
 | .cells cs=>refs.refsL cs
 | .map _ _ es=>refs.refsL (es.map (·.2.1))
 | .iter m _ _ _=>[m]
 | _=>[]
def Sg.trunc (σ:Sg) (n:Nat):Sg:={ σ with φ:=λb k=>if b < n then σ.φ b k else none }
theorem mem_refsL {cs:List AV} {c:AV} (h:c ∈ cs) {r:Nat} (hr:r ∈ refs c):r ∈ refs.refsL cs:=by
 induction cs with
 | nil=>cases h
 | cons d cs ih =>
  simp only [refs.refsL,List.mem_append]; rcases List.mem_cons.1 h with rfl | h
  ·exact .inl hr
  ·exact .inr (ih h)
theorem VR.trunc {σ:Sg} {n:Nat} {x:AV} {u:Value} (h:VR σ x u) (hr:∀ r ∈ refs x,r < n):VR (σ.trunc n) x u:=by
 have hφ:∀ b k v,b < n->σ.φ b k = some v->(σ.trunc n).φ b k = some v:=λb k v hb h=>by
  show (if b < n then σ.φ b k else none) = _
  rw [if_pos hb]; exact h
 induction h with
 | any=>exact .any
 | ub=>exact .ub
 | d h=>exact .d h
 | nilp=>exact .nilp
 | mnil=>exact .mnil
 | ptr h=>exact .ptr (hφ _ _ _ (hr _ (by simp [refs])) h)
 | ip u h1 h2=>exact .ip u h1 h2
 | esl=>exact .esl
 | gsl h hz hd=>exact .gsl (hφ _ _ _ (hr _ (by simp [refs])) h) hz hd
 | hsl h h' a b c d=>exact .hsl (hφ _ _ _ (hr _ (by simp [refs])) h) (hφ _ _ _ (hr _ (by simp [refs])) h') a b c d
 | hsl0 h=>exact .hsl0 (hφ _ _ _ (hr _ (by simp [refs])) h)
 | mp h=>exact .mp (hφ _ _ _ (hr _ (by simp [refs])) h)
 | fn h1 h2 ih=>exact .fn h1 λi c u hi hu=>ih i c u hi hu λr hr'=>hr r (mem_refsL (List.mem_of_getElem? hi) hr')
 | fnb h1 h2 ih=>exact .fnb h1 λi c u hi hu=>ih i c u hi hu λr hr'=>hr r (mem_refsL (List.mem_of_getElem? hi) hr')
 | ifc h1 ih=>exact .ifc (ih λr hr'=>hr r (by simpa [refs] using hr'))
 | agg h1 h2 ih=>exact .agg h1 λi c u hi hu=>ih i c u hi hu λr hr'=>hr r (mem_refsL (List.mem_of_getElem? hi) hr')
 | tup h1 h2 ih=>exact .tup h1 λi c u hi hu=>ih i c u hi hu λr hr'=>hr r (mem_refsL (List.mem_of_getElem? hi) hr')
theorem VR.refs_lt {σ:Sg} {H:List ABlk} {w:World} (h:HR σ H w) {x:AV} {u:Value} (hv:VR σ x u):∀ r ∈ refs x,r < H.length:=by
 have key:∀ b k v,σ.φ b k = some v->b < H.length:=λb k v hb=>by
  rcases Nat.lt_or_ge b H.length with hl | hl
  ·exact hl
  ·rw [h.fresh b k hl] at hb; cases hb
 have lst:∀ (cs:List AV) (us:List Value),cs.length = us.length->(∀ (i:Nat) (c:AV) (u:Value),cs[i]? = some c->us[i]? = some u->∀ r ∈ refs c,r < H.length)->∀ r ∈ refs.refsL cs,r < H.length:=by
  intro cs
  induction cs with
  | nil=>intro us _ _ r hr; simp [refs.refsL] at hr
  | cons c cs ih =>
   intro us hl hh r hr
   match us,hl with
   | u :: us,hl =>
    simp only [refs.refsL,List.mem_append] at hr; rcases hr with hr | hr
    ·exact hh 0 c u rfl rfl r hr
    ·exact ih us (by simpa using hl) (λi c' u' h1 h2=>hh (i + 1) c' u' (by simpa using h1) (by simpa using h2)) r hr
 induction hv with
 | ptr h=>intro r hr; simp [refs] at hr; subst hr; exact key _ _ _ h
 | gsl h _ _=>intro r hr; simp [refs] at hr; subst hr; exact key _ _ _ h
 | hsl h _ _ _ _ _=>intro r hr; simp [refs] at hr; subst hr; exact key _ _ _ h
 | hsl0 h=>intro r hr; simp [refs] at hr; subst hr; exact key _ _ _ h
 | mp h=>intro r hr; simp [refs] at hr; subst hr; exact key _ _ _ h
 | fn h1 _ ih=>exact lst _ _ h1 ih
 | fnb h1 _ ih=>exact lst _ _ h1 ih
 | ifc _ ih=>exact λr hr=>ih r (by simpa [refs] using hr)
 | agg h1 _ ih=>exact lst _ _ h1 ih
 | tup h1 _ ih=>exact lst _ _ h1 ih
 | _=>intro r hr; simp [refs] at hr
theorem HR.refs_lt {σ:Sg} {H:List ABlk} {w:World} (h:HR σ H w) {b:Nat} {k:ABlk} (hb:H[b]? = some k):∀ r ∈ k.refs,r < H.length:=by
 have lst:∀ (cs:List AV) (us:List Value),VRs σ cs us->∀ r ∈ refs.refsL cs,r < H.length:=by
  intro cs us hv
  have:VR σ (.agg cs) (.agg us.toArray):=.agg hv.1 hv.2; exact λr hr=>VR.refs_lt h this r hr
 have hB:=h.blk b k hb
 cases k with
 | cells cs =>
  rcases hB with ⟨g,vs,t,_,_,_,h3,_⟩ | ⟨rfl,_⟩
  ·exact lst _ _ h3
  ·intro r hr; simp [ABlk.refs,refs.refsL] at hr
 | map kt ck es=>obtain ⟨g,ms,_,_,h3,_⟩:=hB; exact lst _ _ h3
 | iter m since seen last =>
  obtain ⟨g,gm,_,h2,_⟩:=hB
  intro r hr
  have:r = m:=by simpa [ABlk.refs] using hr
  subst this; rcases Nat.lt_or_ge r H.length with hl | hl
  ·exact hl
  ·rw [h.fresh r 0 hl] at h2; cases h2
 | _=>intro r hr; simp [ABlk.refs] at hr
theorem VRs.trunc {σ:Sg} {n:Nat} {cs:List AV} {us:List Value} (h:VRs σ cs us) (hr:∀ r ∈ refs.refsL cs,r < n):VRs (σ.trunc n) cs us:=
 ⟨h.1,λi c u h1 h2=>(h.2 i c u h1 h2).trunc λr hr'=>hr r (mem_refsL (List.mem_of_getElem? h1) hr')⟩
theorem HR.trunc {σ:Sg} {H l:List ABlk} {w:World} (h:HR σ (H ++ l) w) (hr:∀ (b:Nat) (k:ABlk),H[b]? = some k->∀ r ∈ k.refs,r < H.length):HR (σ.trunc H.length) H w:=by
 have hin:∀ {b:Nat} {k:ABlk},H[b]? = some k->b < H.length/\(H ++ l)[b]? = some k:=λ{b k} hb=>by
  have hlt:b < H.length:=(List.getElem?_eq_some_iff.1 hb).1; exact ⟨hlt,by rw [List.getElem?_append_left hlt]; exact hb⟩
 have hφ:∀ b k,b < H.length->(σ.trunc H.length).φ b k = σ.φ b k:=λb k hb=>if_pos hb
 refine ⟨h.mem,λb k hb=>?_,λb n hb=>if_neg (by omega),λb b' k k' v v' g hb hb' hl hl' hv hv' hc hc'=>?_⟩
 ·obtain ⟨hlt,hb2⟩:=hin hb
  have hB:=h.blk b k hb2; have hrk:=hr b k hb
  cases k with
  | free=>exact λn=>by rw [hφ _ _ hlt]; exact hB n
  | dead=>trivial
  | cells cs =>
   rcases hB with ⟨g,vs,t,h1,h1',h2,h3,h4⟩ | ⟨h0,v,h1,h2⟩
   ·exact .inl ⟨g,vs,t,by rw [hφ _ _ hlt]; exact h1,by rw [hφ _ _ hlt]; exact h1',h2,h3.trunc hrk,h4⟩
   ·exact .inr ⟨h0,v,by rw [hφ _ _ hlt]; exact h1,h2⟩
  | row e sz n =>
   obtain ⟨v,xs,h1,h2,h3,h4⟩:=hB; exact ⟨v,xs,by rw [hφ _ _ hlt]; exact h1,h2,λm hm=>by rw [hφ _ _ hlt]; exact h3 m hm,h4⟩
  | map kt ck es =>
   obtain ⟨g,ms,h1,h2,h3,h4⟩:=hB; exact ⟨g,ms,by rw [hφ _ _ hlt]; exact h1,h2,h3.trunc hrk,h4⟩
  | bld t =>
   obtain ⟨g,h1,h1',h2⟩:=hB; exact ⟨g,by rw [hφ _ _ hlt]; exact h1,by rw [hφ _ _ hlt]; exact h1',h2⟩
  | iter m since seen last =>
   obtain ⟨g,gm,h1,h1',h2⟩:=hB; exact ⟨g,gm,by rw [hφ _ _ hlt]; exact h1,by rw [hφ _ _ (hrk m (by simp [ABlk.refs]))]; exact h1',h2⟩
 ·obtain ⟨hlt,hb2⟩:=hin hb
  obtain ⟨hlt',hb2'⟩:=hin hb'; rw [hφ _ _ hlt] at hv; rw [hφ _ _ hlt'] at hv'; exact h.inj b b' k k' v v' g hb2 hb2' hl hl' hv hv' hc hc'
end
end Go.Proofs.YtofpekbidngnfaaGreatDoor
