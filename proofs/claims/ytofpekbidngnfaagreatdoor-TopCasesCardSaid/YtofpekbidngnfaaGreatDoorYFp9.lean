/-
  One's own library, part 26: the quick evaluator is right: appending, making, copying, cutting.
-/
import Derived.Test.YtofpekbidngnfaaGreatDoorYFp4
import Derived.Test.YtofpekbidngnfaaGreatDoorYFf
set_option linter.constructorNameAsVariable false
set_option linter.unusedSectionVars false
set_option linter.unusedSimpArgs false
set_option linter.unusedVariables false
namespace Go.Proofs.YtofpekbidngnfaaGreatDoor
open Go.RowKit
noncomputable section
section
variable {S:List AV} {h h':Hp} {H:List ABlk} {v x y w:FV} {x' y' w':Opd} {rd:List Nat}
theorem datssF_len:∀ {xs:List (List AV)} {ds:List (List Dat)},datss xs = some ds->ds.length = xs.length
 | [],ds,h=>by cases h; rfl
 | x :: xs,ds,h=>by
  simp only [datss] at h
  split at h
  ·rename_i d ds' e1 e2
   cases h
   rw [List.length_cons,List.length_cons,datssF_len e2]
  ·cases h
theorem le_max {n:Nat} (h:n<=140737488355328):n<=maxLen:=by rw [mx_eq]; omega
theorem all_cells {n:Nat} {es:List FV} (h:cellsB n es = true):(toAs es).all one = true:=(cellsB_ok h).2
theorem app_new {e sz by':Nat} {xs:List (List AV)} {G:List ABlk} (hx:elemsA G sz (get S y') = some xs) (ha:get S x' = .esl) (h1:xs.length * by'<=140737488355328) (h2:xs.length<=maxLen) (h3:xs.flatten.all one = true) :
 evK (.app .hp e sz by' x' y') S G = some (.hsl G.length 0 xs.length xs.length sz,G ++ [.cells xs.flatten]):=by
 simp only [evK,hx]
 cases hd:datss xs with
 | some ds =>
  have hl:=datssF_len hd; simp only [ha,hl]; rw [if_pos ⟨h1,h2⟩]
 | none =>
  simp only [appH,ha]; rw [if_pos ⟨h1,h2,h3⟩]
theorem app_old {e sz by' b n c:Nat} {xs:List (List AV)} {G:List ABlk} {cs:List AV} (hx:elemsA G sz (get S y') = some xs) (ha:get S x' = .hsl b 0 n c sz) (hb:G[b]? = some (.cells cs)) (h0:n * sz<=cs.length)
 (h1:(n + xs.length) * by'<=140737488355328) (h2:n + xs.length<=maxLen) (h3:xs.flatten.all one = true) :
 evK (.app .hp e sz by' x' y') S G = some (.hsl G.length 0 (n + xs.length) (n + xs.length) sz,G.set b .dead ++ [.cells (cs.take (n * sz) ++ xs.flatten)]):=by
 simp only [evK,hx]
 cases hd:datss xs with
 | some ds =>
  have hl:=datssF_len hd; simp only [ha,hl,hb]; rw [if_pos ⟨trivial,h0,h1,h2⟩]
 | none =>
  simp only [appH,ha,hb]; rw [if_pos ⟨trivial,h0,h1,h2,h3⟩]
theorem o_app {e0 sz by':Nat} (hx:get S x' = toA x) (hy:get S y' = toA y) (hr:HpR h H) (hrd:(nmOf x).ns ++ (nmOf y).ns ⊆ rd) (e:k_app sz by' x y h = .ok v h'):Res h H v h' rd λG a G'=>evK (.app .hp e0 sz by' x' y') S G = some (a,G'):=by
 obtain ⟨m,es,e1,hG⟩:=elemsF_ok hr (show elemsF sz y h _ = .ok v h' from e); obtain ⟨hc,e2⟩:=bif_ok e1; have hone:=all_cells hc; have hlen:=(cellsB_ok hc).1; have hyn:∀ {u:List Nat},(∀ b ∈ u,b ∉ rd)->∀ b ∈ (nmOf y).ns,(kill u H)[b]? = H[b]?:=λ{u} hu b hb=>kill_out u H λhbu=>hu b hbu (hrd (List.mem_append.2 (.inr hb)))
 cases x <;> first | (cases e2; done) | skip
 ·obtain ⟨h1,e3⟩:=bif_ok (show bif' _ _ FR.no = .ok v h' from e2)
  obtain ⟨h2,e4⟩:=bif_ok e3; have h1:=Nat.le_of_ble_eq_true h1; have h2:=Nat.le_of_ble_eq_true h2; obtain ⟨p,h3,hp,hr1,hf,e5⟩:=newB_ok hr e4 (blk:=.cells (toAs es)) (by
   show ABlk.cells _ = .cells (padL .any (Nat.mul m sz) es)
   rw [padL_full hlen])
  cases e5
  refine ⟨[],_,hr1,hf,λu hu=>?_⟩; obtain ⟨L,p1,p2,p3,p4,p5⟩:=hG (kill u H) (hyn λb hb=>(hu b hb).1); rw [kill_app λb hb=>by
   have:=(hu b hb).2.2; rw [List.length_append,List.length_singleton] at this; rw [List.length_singleton]; exact this]
  rw [app_new (by rw [hy]; exact p1) hx (by rw [p2]; exact h1) (by rw [p2]; exact le_max h2) (by rw [p3]; exact hone)]; rw [p2,p3,kill_length]; simp only [toA,hp]
 ·rename_i p o n c z
  obtain ⟨h1,e3⟩:=bif_ok (show bif' _ _ FR.no = .ok v h' from e2); obtain ⟨h2,e4⟩:=bif_ok e3; obtain rfl:=Nat.eq_of_beq_eq_true h1; obtain rfl:=Nat.eq_of_beq_eq_true h2; obtain ⟨q,cs,zz,hp,e5⟩:=cellsOf_ok e4; obtain ⟨h3,e6⟩:=bif_ok e5; obtain ⟨h4,e7⟩:=bif_ok e6; obtain ⟨h5,e8⟩:=bif_ok e7; rw [fN_eq] at e8; have h3:n * z<=q:=Nat.le_of_ble_eq_true h3; have h4:=Nat.le_of_ble_eq_true h4; have h5:=Nat.le_of_ble_eq_true h5; have hb:=hr.cells hp; have hrs:HpR (setB h p .dead) (H.set (num p) .dead):=hr.set (x:=.dead) (k:=.dead) trivial (List.getElem?_eq_some_iff.1 hb).1; obtain ⟨p1,h6,hp1,hr1,hf,e9⟩:=newB_ok hrs e8 (blk:=.cells ((padL zz q cs).take (n * z) ++ toAs es)) (by
   show ABlk.cells _ = .cells (padL .any (Nat.mul (Nat.add n m) z) _)
   rw [padL_full (z:=.any) (l:=appL (takN zz (Nat.mul n z) cs) es) (by rw [appL_eq,List.length_append,takN_length,hlen]; exact (Nat.add_mul n m z).symm),appL_eq,toAs_append]; have:=toAs_takN zz (n * z) 0 q cs (by omega); rw [List.drop_zero,show drpN 0 cs = cs from rfl] at this; rw [show Nat.mul n z = n * z from rfl,this])
  cases e9
  refine ⟨_,_,hr1,(Fra.set h H p .dead .dead hb (λe=>by cases e)).trans hf,λu hu=>?_⟩; have hnu:num p ∉ u:=λhm=>(hu _ hm).2.1 (by simp)
  obtain ⟨L,q1,q2,q3,q4,q5⟩:=hG (kill u H) (hyn λb hb=>(hu b hb).1); have hlu:∀ b ∈ u,b < (H.set (num p) ABlk.dead).length\/(H.set (num p) ABlk.dead).length + 1<=b:=λb hb=>by
   have:=(hu b hb).2.2; rw [List.length_append,List.length_set,List.length_singleton] at this; rw [List.length_set]; exact this
  rw [kill_app hlu,kill_comm hnu]
  show evK (.app .hp e0 z by' x' y') S (kill u H) = some (_,_)
  rw [app_old (by rw [hy]; exact q1) hx (killed hb hnu) (by rw [padL_length]; exact h3) (by rw [q2]; exact h4) (by rw [q2]; exact le_max h5) (by rw [q3]; exact hone)]; rw [q2,q3,kill_length]; rw [List.length_set] at hp1; simp only [toA,hp1]
  rfl
theorem repB_ok (m:Nat) (z:List AV):BkR (repB m (fvs z)) (.cells (List.replicate m z).flatten):=by
 have gen:BkR (.c (Nat.mul m (lenL (fvs z) 0)) (Nat.rec (motive:=λ_=>List FV) [] (λ_ r=>appL (fvs z) r) m) .any) (.cells (List.replicate m z).flatten):=by
  have hl:(fvs z).length = z.length:=by rw [<- toAs_length,toAs_fvs]
  have h1:∀ m:Nat,toAs (Nat.rec (motive:=λ_=>List FV) [] (λ_ r=>appL (fvs z) r) m) = (List.replicate m z).flatten:=λm=>by
   induction m with
   | zero=>rfl
   | succ m ih =>
    show toAs (appL (fvs z) _) = _
    rw [appL_eq,toAs_append,toAs_fvs,ih,List.replicate_succ,List.flatten_cons]
  show ABlk.cells _ = .cells (padL .any _ _)
  rw [padL_full,h1]; rw [<- toAs_length,h1,lenL_eq,Nat.zero_add,hl]
  simp
 match z,gen with
 | [],gen=>exact gen
 | [a],_ =>
  show ABlk.cells _ = .cells (padL (fv a) m [])
  congr 1
  refine List.ext_getElem? λi=>?_
  rw [padL_get]
  by_cases hi:i < m
  ·rw [if_pos hi,gEe (by simpa using hi)]
   simp [toA_fv]
  ·rw [if_neg hi,List.getElem?_eq_none (by simpa using hi)]
 | a :: b :: z,gen=>exact gen
theorem o_mks {md:Md} {e0 sz by':Nat} {z:List AV} (hx:get S x' = toA x) (hy:get S y' = toA y) (hr:HpR h H) (e:k_mks sz by' (fvs z) x y h = .ok v h'):Res h H v h' rd λG a G'=>evK (.mks md e0 sz by' z x' y') S G = some (a,G'):=by
 obtain ⟨k,l,rfl,e1⟩:=onI_ok e; obtain ⟨k',m,rfl,e2⟩:=onI_ok e1; obtain ⟨l,rfl,e3⟩:=onN_ok e2; obtain ⟨m,rfl,e4⟩:=onN_ok e3; obtain ⟨h1,e5⟩:=bif_ok e4; obtain ⟨h2,e6⟩:=bif_ok e5; obtain ⟨h3,e7⟩:=bif_ok e6; have h1:=Nat.le_of_ble_eq_true h1; have h2:=Nat.le_of_ble_eq_true h2; have h3:=Nat.le_of_ble_eq_true h3; refine .new hr (repB_ok m z) e7 λG p hG hp=>?_
 simp only [evK,hx,hy,toA,Int.ofNat_eq_natCast,Int.toNat_natCast]; rw [if_pos ⟨by omega,by omega,h2,le_max h3⟩,hG,hp]
theorem dat_one {a:FV} (h:datB a = true):∃ d,toDat (toA a) = some d/\AV.d d = toA a:=by cases a <;> first | (cases h; done) | exact ⟨_,rfl,rfl⟩
theorem dats_ok:∀ {es:List FV},datsB es = true->∀ {L:List (List AV)},L.flatten = toAs es->∃ ds,datss L = some ds/\ds.flatten.map AV.d = toAs es:=by
 have one:∀ {es:List FV},datsB es = true->∃ ds,toDats (toAs es) = some ds/\ds.map AV.d = toAs es:=by
  intro es
  induction es with
  | nil=>intro _; exact ⟨[],rfl,rfl⟩
  | cons a r ih =>
   intro h
   have h1:bif' (datB a) (datsB r) false = true:=h
   cases hd:datB a with
   | false=>rw [hd] at h1; cases h1
   | true =>
    rw [hd] at h1; obtain ⟨d,h2,h3⟩:=dat_one hd; obtain ⟨ds,h4,h5⟩:=ih h1; exact ⟨d :: ds,by simp only [toAs,toDats,h2,h4],by simp [toAs,h3,h5]⟩
 have app:∀ (a b:List AV) (ds:List Dat),toDats (a ++ b) = some ds->∃ d1 d2,toDats a = some d1/\toDats b = some d2/\ds = d1 ++ d2:=by
  intro a
  induction a with
  | nil=>intro b ds h; exact ⟨[],ds,rfl,h,rfl⟩
  | cons x a ih =>
   intro b ds h
   simp only [List.cons_append,toDats] at h
   split at h
   ·rename_i d ds' e1 e2
    cases h
    obtain ⟨d1,d2,e3,e4,rfl⟩:=ih b ds' e2; exact ⟨d :: d1,d2,by simp only [toDats,e1,e3],e4,rfl⟩
   ·cases h
 intro es hes L hL
 obtain ⟨ds,h1,h2⟩:=one hes; rw [<- hL] at h1 h2; rw [<- hL]; clear hes hL
 induction L generalizing ds with
 | nil=>exact ⟨[],rfl,rfl⟩
 | cons x L ih =>
  rw [List.flatten_cons] at h1 h2; obtain ⟨d1,d2,e1,e2,rfl⟩:=app x _ _ h1; have hl:(d1.map AV.d).length = x.length:=by
   have len:∀ {a:List AV} {d:List Dat},toDats a = some d->d.length = a.length:=by
    intro a
    induction a with
    | nil=>intro d h; cases h; rfl
    | cons y a ih =>
     intro d h
     simp only [toDats] at h
     split at h
     ·rename_i e3 e4; cases h; simp [ih e4]
     ·cases h
   rw [lnn,len e1]
  rw [List.map_append] at h2; obtain ⟨h3,h4⟩:=List.append_inj h2 hl; obtain ⟨ds,e3,e4⟩:=ih d2 e2 h4; refine ⟨d1 :: ds,by simp only [datss,e1,e3],?_⟩; rw [List.flatten_cons,List.map_append,h3,e4,List.flatten_cons]
theorem o_cpy {sz:Nat} (hx:get S x' = toA x) (hy:get S y' = toA y) (hr:HpR h H) (hrd:(nmOf x).ns ++ (nmOf y).ns ⊆ rd) (e:k_cpy sz x y h = .ok v h'):Res h H v h' rd λG a G'=>evK (.cpy sz x' y') S G = some (a,G'):=by
 obtain ⟨p,o,n,c,z',rfl,e1⟩:=onH_ok e; obtain ⟨m,es,e2,hG⟩:=elemsF_ok hr e1; obtain ⟨hd,e3⟩:=bif_ok e2; obtain ⟨h1,e4⟩:=bif_ok e3; obtain ⟨h2,e5⟩:=bif_ok e4; obtain ⟨q,cs,z,hp,e6⟩:=cellsOf_ok e5; obtain ⟨h3,e7⟩:=bif_ok e6; rw [fN_eq] at e7
 cases e7
 obtain rfl:=Nat.eq_of_beq_eq_true h1; have h2:=Nat.le_of_ble_eq_true h2; have h3:o + n * z'<=q:=Nat.le_of_ble_eq_true h3; have hb:=hr.cells hp; obtain ⟨L0,q1,q2,q3,q4,q5⟩:=hG H λ_ _=>rfl
 have hle:o + es.length<=q:=by rw [q4]; exact Nat.le_trans (Nat.add_le_add_left (Nat.mul_le_mul_right _ h2) _) h3
 refine ⟨[num p],_,hr.set (x:=.c q (layN z es o cs) z) (k:=.cells (splice (padL z q cs) o (toAs es))) (by show ABlk.cells _ = .cells _; rw [padL_layN hle]) (List.getElem?_eq_some_iff.1 hb).1,.set h H p _ _ hb (λe=>by cases e),λu hu=>?_⟩; have hnu:num p ∉ u:=λhm=>(hu _ hm).2.1 (by simp)
 obtain ⟨L,p1,p2,p3,p4,p5⟩:=hG (kill u H) λb hb=>kill_out u H λhbu=>(hu b hbu).1 (hrd (List.mem_append.2 (.inr hb)))
 obtain ⟨ds,d1,d2⟩:=dats_ok hd p3; have hl:=datssF_len d1; rw [kill_comm hnu]; simp only [evK,hx,hy,toA,killed hb hnu,p1,d1,hl,p2,padL_length,d2]; rw [if_pos ⟨trivial,h2,h3⟩]
 rfl
theorem bsL_cons {sz:Nat} {x:FO} {r:FOs} {t:Fr} {k:List FV->FR}:k_bsL sz (.cons x r) t k = cellsF (gO x t) λm cs=>bif' (Nat.beq m sz) (k_bsL sz r t λr=>k (appL cs r)) .no:=rfl
theorem bd_cons {o n:Nat} {x:FO} {r:FPs} {z:List FV} {t:Fr}:k_bd z (.cons o n x r) t h = cellsF (gO x t) λm cs=>bif' (Nat.beq m n) (bif' (Nat.ble (Nat.add o n) (lenL z 0)) (k_bd (layN .any cs o z) r t h) .no) .no:=rfl
theorem slh_esl {sz:Nat} {lo hi:FOo} {t:Fr}:k_slh sz lo hi .esl t h = bndF t 0 lo λa=>bndF t 0 hi λb=>bif' (Nat.beq a 0) (bif' (Nat.beq b 0) (.ok .esl h) .no) .no:=rfl
theorem slh_hsl {sz:Nat} {lo hi:FOo} {t:Fr} {p:Pth} {o n c z:Nat}:k_slh sz lo hi (.hsl p o n c z) t h = bndF t 0 lo λa=>bndF t n hi λb=>bif' (Nat.beq z sz) (bif' (Nat.ble a b) (bif' (Nat.ble b c) (bif' (Nat.beq a c) (.ok (.x (.d (.sl []))) h) (fN (Nat.add o (Nat.mul a sz)) λo=>fN (Nat.sub b a) λn=>fN (Nat.sub c a) λc=>.ok (.hsl p o n c z) h)) .no) .no) .no:=rfl
theorem bsL_ok {t:Fr} (hf:FrR t S) {sz:Nat}:∀ {ps:List Opd} {kk:List FV->FR} {v:FV} {h':Hp},(∀ x ∈ ps,inS S.length x)->k_bsL sz (fos ps) t kk = .ok v h' ->
 ∃ cs,kk cs = .ok v h'/\(ps.all λp=>shown (get S p) && (cellsAV (get S p)).length == sz) = true/\toAs cs = (ps.map λp=>cellsAV (get S p)).flatten/\cs.length = ps.length * sz
 | [],kk,v,h',_,e=>⟨[],e,rfl,rfl,by simp⟩
 | x :: ps,kk,v,h',hin,e=>by
  rw [show fos (x :: ps) = .cons (fo x) (fos ps) from rfl,bsL_cons] at e; obtain ⟨n,cs,e1,h1,h2,h3⟩:=cellsF_ok e; obtain ⟨h4,e2⟩:=bif_ok e1; obtain rfl:=Nat.eq_of_beq_eq_true h4; obtain ⟨r,e3,h5,h6,h7⟩:=bsL_ok hf (λy hy=>hin y (List.mem_cons_of_mem _ hy)) e2; rw [<- gO_ok hf (hin x List.mem_cons_self)] at h2 h3; refine ⟨appL cs r,e3,?_,?_,?_⟩
  ·rw [List.all_cons,h5,h3,<- h2,toAs_length,h1]; simp
  ·rw [appL_eq,toAs_append,h2,h6]; rfl
  ·rw [appL_eq,List.length_append,h1,h7,List.length_cons,Nat.succ_mul]; omega
theorem o_bs {t:Fr} (hf:FrR t S) {e0 sz:Nat} {ps:List Opd} (hin:∀ x ∈ ps,inS S.length x) (hr:HpR h H) (e:k_bs ps.length sz (fos ps) t h = .ok v h'):Res h H v h' rd λG a G'=>evK (.bs .hp e0 sz ps) S G = some (a,G'):=by
 unfold k_bs at e
 obtain ⟨cs,e1,h1,h2,h3⟩:=bsL_ok hf hin e; refine .new hr (blk:=.cells (ps.map λp=>cellsAV (get S p)).flatten) (x:=.c (Nat.mul ps.length sz) cs .any) ?_ e1 λG p hG hp=>?_
 ·show ABlk.cells _ = .cells (padL .any (ps.length * sz) cs)
  rw [padL_full h3,h2]
 ·simp only [evK,h1,if_true,toA,hG,hp]
theorem layN_length {z:FV}:∀ {o:Nat} {vs l:List FV},o + vs.length<=l.length->(layN z vs o l).length = l.length
 | 0,[],l,_=>rfl
 | 0,v :: vs,[],h=>by simp at h
 | 0,v :: vs,a :: l,h=>by
  show (v :: layN z vs 0 l).length = _
  rw [List.length_cons,layN_length (by simp only [List.length_cons] at h; omega),List.length_cons]
 | o + 1,vs,[],h=>by simp at h
 | o + 1,vs,a :: l,h=>by
  show (a :: layN z vs o l).length = _
  rw [List.length_cons,layN_length (by simp only [List.length_cons] at h; omega),List.length_cons]
theorem o_bd {t:Fr} (hf:FrR t S) {z:List AV} {ps:List (Nat × Nat × Opd)} (hin:∀ x ∈ ps,inS S.length x.2.2) (hr:HpR h H) (e:k_bd (fvs z) (fps ps) t h = .ok v h'):Res h H v h' rd λG a G'=>evK (.bd z ps) S G = some (a,G'):=by
 have go:∀ (ps:List (Nat × Nat × Opd)) (z:List FV),(∀ x ∈ ps,inS S.length x.2.2)->k_bd z (fps ps) t h = .ok v h'->∃ cs,h' = h/\v = .agg cs/\fillA (toAs z) (ps.map λp=>(p.1,p.2.1,get S p.2.2)) = some (toAs cs):=by
  intro ps
  induction ps with
  | nil=>intro z _ e; cases e; exact ⟨z,rfl,rfl,rfl⟩
  | cons p ps ih =>
   obtain ⟨o,n,x⟩:=p
   intro z hin e
   rw [show fps ((o,n,x) :: ps) = .cons o n (fo x) (fps ps) from rfl,bd_cons] at e; obtain ⟨m,cs,e1,h1,h2,h3⟩:=cellsF_ok e; obtain ⟨h4,e2⟩:=bif_ok e1; obtain ⟨h5,e3⟩:=bif_ok e2; obtain rfl:=Nat.eq_of_beq_eq_true h4; have h5:=Nat.le_of_ble_eq_true h5; rw [lenL_eq,Nat.zero_add] at h5; have h5':o + cs.length<=z.length:=by rw [h1]; exact h5
   obtain ⟨c2,r1,r2,r3⟩:=ih _ (λy hy=>hin y (List.mem_cons_of_mem _ hy)) e3; refine ⟨c2,r1,r2,?_⟩; have hg:=gO_ok hf (hin (o,m,x) List.mem_cons_self); rw [List.map_cons,fillA]; simp only [hg]; rw [if_pos (by rw [h3,<- h2,toAs_length,h1,toAs_length]; simp; exact h5),<- h2]; rw [<- r3]
   congr 1
   rw [<- padL_full (z:=.any) (layN_length h5'),padL_layN h5',padL_full rfl]
 obtain ⟨cs,rfl,rfl,h1⟩:=go ps (fvs z) hin e; rw [toAs_fvs] at h1; exact .pure hr λG=>by simp only [evK,h1,toA]
theorem bnd_ok {t:Fr} (hf:FrR t S) {d:Nat} {x:Option Opd} (hin:∀ y,x = some y->inS S.length y) {kk:Nat->FR} (e:bndF t d (foo x) kk = .ok v h'):∃ n:Nat,bnd S d x = some (n:Int)/\kk n = .ok v h':=by
 cases x with
 | none=>exact ⟨d,rfl,e⟩
 | some x =>
  obtain ⟨k,n,hx,e1⟩:=onI_ok (show onI _ (gO (fo x) t) = .ok v h' from e); obtain ⟨m,rfl,e2⟩:=onN_ok e1; refine ⟨m,?_,e2⟩; simp only [bnd,gO_ok hf (hin x rfl),hx,toA]
  rfl
theorem o_sls {t:Fr} (hf:FrR t S) {lo hi:Option Opd} {sz:Nat} (hlo:∀ y,lo = some y->inS S.length y) (hhi:∀ y,hi = some y->inS S.length y) (hx:get S x' = toA x) (hr:HpR h H) (e:k_sls (foo lo) (foo hi) x t h = .ok v h') :
 Res h H v h' rd λG a G'=>evK (.sli true x' lo hi sz) S G = some (a,G'):=by
 obtain ⟨l,c,rfl,e1⟩:=onS_ok e; obtain ⟨a,b1,e2⟩:=bnd_ok hf hlo e1; obtain ⟨b,b2,e3⟩:=bnd_ok hf hhi e2; obtain ⟨h1,e4⟩:=bif_ok e3; obtain ⟨h2,e5⟩:=bif_ok e4; rw [mkS_eq] at e5
 cases e5
 have h1:=Nat.le_of_ble_eq_true h1; have h2:=Nat.le_of_ble_eq_true h2; refine .pure hr λG=>?_
 have h3:(⟨(bys l c).toArray⟩:ByteArray).extract a b = ⟨(bys (b - a) (c / p8 a % p8 (b - a))).toArray⟩:=by
  rw [bys_slice l c a b h1 h2]
  apply ByteArray.ext
  rw [ByteArray.data_extract]; simp [List.extract_eq_take_drop]
 simp only [evK,hx,toA,isStr,if_true,lenA,size_bys,b1,b2,slA]; rw [if_pos ⟨by omega,by omega,by omega⟩]; simp only [Int.toNat_natCast,h3]
 rfl
theorem o_slh {t:Fr} (hf:FrR t S) {lo hi:Option Opd} {sz:Nat} (hlo:∀ y,lo = some y->inS S.length y) (hhi:∀ y,hi = some y->inS S.length y) (hx:get S x' = toA x) (hr:HpR h H) (e:k_slh sz (foo lo) (foo hi) x t h = .ok v h') :
 Res h H v h' rd λG a G'=>evK (.sli false x' lo hi sz) S G = some (a,G'):=by
 cases x <;> first | (cases e; done) | skip
 ·rw [slh_esl] at e
  obtain ⟨a,b1,e2⟩:=bnd_ok hf hlo e; obtain ⟨b,b2,e3⟩:=bnd_ok hf hhi e2; obtain ⟨h1,e4⟩:=bif_ok e3; obtain ⟨h2,e5⟩:=bif_ok e4; obtain rfl:=Nat.eq_of_beq_eq_true h1; obtain rfl:=Nat.eq_of_beq_eq_true h2
  cases e5
  exact .pure hr λG=>by simp [evK,hx,toA,isStr,lenA,b1,b2,slA]
 ·rename_i a
  have e0:bif' (isStr a) FR.no _ = .ok v h':=e
  cases hs:isStr a with
  | true=>rw [hs] at e0; cases e0
  | false =>
   rw [hs,bif_f] at e0
   split at e0
   ·rename_i n hn
    obtain ⟨l,b1,e2⟩:=bnd_ok hf hlo e0; obtain ⟨b,b2,e3⟩:=bnd_ok hf hhi e2; obtain ⟨rfl,e4⟩:=viaA_ok e3; exact .pure hr λG=>by simp only [evK,hx,toA,hs,if_true,hn,b1,b2,e4]
   ·cases e0
 ·rename_i p o n c z
  rw [slh_hsl] at e; obtain ⟨a,b1,e2⟩:=bnd_ok hf hlo e; obtain ⟨b,b2,e3⟩:=bnd_ok hf hhi e2; obtain ⟨h1,e4⟩:=bif_ok e3; obtain ⟨h2,e5⟩:=bif_ok e4; obtain ⟨h3,e6⟩:=bif_ok e5; obtain rfl:=Nat.eq_of_beq_eq_true h1; have h2:=Nat.le_of_ble_eq_true h2; have h3:=Nat.le_of_ble_eq_true h3; have hS:slA (.hsl (num p) o n c z) a b z = some (if a = c then .d (.sl []) else .hsl (num p) (o + a * z) (b - a) (c - a) z):=by
   simp only [slA]; rw [if_pos ⟨by omega,by omega,by omega,trivial⟩]
   by_cases hac:a = c
   ·rw [if_pos (by omega),if_pos hac]
   ·rw [if_neg (by omega),if_neg hac]
    simp only [Int.toNat_natCast]
  have key:h' = h/\toA v = (if a = c then .d (.sl []) else .hsl (num p) (o + a * z) (b - a) (c - a) z):=by
   cases hac:Nat.beq a c with
   | true =>
    rw [hac] at e6
    cases e6
    exact ⟨rfl,by rw [if_pos (Nat.eq_of_beq_eq_true hac)]; rfl⟩
   | false =>
    rw [hac,bif_f,fN_eq,fN_eq,fN_eq] at e6
    cases e6
    refine ⟨rfl,?_⟩; rw [if_neg (λhe=>by rw [he,Nat.beq_refl] at hac; cases hac)]
    rfl
  obtain ⟨rfl,hv⟩:=key; refine .pure hr λG=>?_
  simp only [evK,hx,toA,isStr,if_true,lenA,b1,b2,hS,hv,Bool.false_eq_true]
theorem o_sla {t:Fr} (hf:FrR t S) {lo hi:Option Opd} {n sz:Nat} (hlo:∀ y,lo = some y->inS S.length y) (hhi:∀ y,hi = some y->inS S.length y) (hx:get S x' = toA x) (hr:HpR h H) (hrd:(nmOf x).ns ⊆ rd) (e:k_sla n sz (foo lo) (foo hi) x t h = .ok v h') :
 Res h H v h' rd λG a G'=>n<=maxLen->evK (.sla x' lo hi n sz) S G = some (a,G'):=by
 obtain ⟨p,o,rfl,e1⟩:=onP_ok e; obtain ⟨m,cs,z,hp,e2⟩:=cellsOf_ok e1; obtain ⟨h0,e3⟩:=bif_ok e2; obtain ⟨a,b1,e4⟩:=bnd_ok hf hlo e3; obtain ⟨b,b2,e5⟩:=bnd_ok hf hhi e4; obtain ⟨h1,e6⟩:=bif_ok e5; obtain ⟨h2,e7⟩:=bif_ok e6; have h0:o + n * sz<=m:=Nat.le_of_ble_eq_true h0; have h1:=Nat.le_of_ble_eq_true h1; have h2:=Nat.le_of_ble_eq_true h2; have hS:slA (.hsl (num p) o n n sz) a b sz = some (if a = n then .d (.sl []) else .hsl (num p) (o + a * sz) (b - a) (n - a) sz):=by
  simp only [slA]; rw [if_pos ⟨by omega,by omega,by omega,trivial⟩]
  by_cases hac:a = n
  ·rw [if_pos (by omega),if_pos hac]
  ·rw [if_neg (by omega),if_neg hac]
   simp only [Int.toNat_natCast]
 have key:h' = h/\toA v = (if a = n then .d (.sl []) else .hsl (num p) (o + a * sz) (b - a) (n - a) sz):=by
  cases hac:Nat.beq a n with
  | true =>
   rw [hac] at e7
   cases e7
   exact ⟨rfl,by rw [if_pos (Nat.eq_of_beq_eq_true hac)]; rfl⟩
  | false =>
   rw [hac,bif_f,fN_eq,fN_eq,fN_eq] at e7
   cases e7
   refine ⟨rfl,?_⟩; rw [if_neg (λhe=>by rw [he,Nat.beq_refl] at hac; cases hac)]
   rfl
 obtain ⟨rfl,hv⟩:=key; refine .read hr (hr.cells hp) (hrd (by simp [nmOf,Lg.ns])) λG hG hmx=>?_
 simp only [evK,hx,toA,hG,b1,b2,padL_length]; rw [if_pos ⟨h0,hmx⟩]; simp only [hS,hv]
theorem o_mkf {t:Fr} (hf:FrR t S) {f:Nat} {xs:List Opd} (hin:∀ x ∈ xs,inS S.length x) (hr:HpR h H):Res h H (.fn f (gOs (fos xs) t)) h rd λG a G'=>evK (.mkf f xs) S G = some (a,G'):=
 .pure hr λG=>by simp only [evK,toA,gOs_ok hf hin]
theorem o_mkb {t:Fr} (hf:FrR t S) {f:Nat} {xs:List Opd} (hin:∀ x ∈ xs,inS S.length x) (hr:HpR h H):Res h H (.fnb f (gOs (fos xs) t)) h rd λG a G'=>evK (.mkb f xs) S G = some (a,G'):=
 .pure hr λG=>by simp only [evK,toA,gOs_ok hf hin]
theorem mm_ok {lt:Int->Int->Bool} {k:IntKind}:∀ {l:List FV} {n:Int},(List.rec (motive:=λ_=>Int->FR) (λn=>mkI k n h) (λb _ ih n=>onI (λ_ m=>bif' (lt m n) (ih m) (ih n)) b) l:Int->FR) n = .ok v h' ->
 ∃ L:List (IntKind × Int),toAs l = L.map (λp=>AV.d (.v (.int p.1 p.2)))/\h' = h/\v = .i k (L.foldl (λa b=>if lt b.2 a then b.2 else a) n)
 | [],n,e=>by
  have e:mkI k n h = .ok v h':=e; rw [mkI_eq] at e; cases e; exact ⟨[],rfl,rfl,rfl⟩
 | b :: l,n,e=>by
  obtain ⟨k',m,rfl,e1⟩:=onI_ok (show onI _ b = .ok v h' from e)
  cases hl:lt m n with
  | true =>
   rw [hl,bif_t] at e1; obtain ⟨L,h1,h2,h3⟩:=mm_ok e1; exact ⟨(k',m) :: L,by simp [toAs,toA,h1],h2,by rw [h3,List.foldl_cons]; simp [hl]⟩
  | false =>
   rw [hl,bif_f] at e1; obtain ⟨L,h1,h2,h3⟩:=mm_ok e1; exact ⟨(k',m) :: L,by simp [toAs,toA,h1],h2,by rw [h3,List.foldl_cons]; simp [hl]⟩
theorem ints_of:∀ {xs:List Opd} {L:List (IntKind × Int)},xs.map (get S) = L.map (λp=>AV.d (.v (.int p.1 p.2)))->ints S xs = some L
 | [],[],_=>rfl
 | [],_ :: _,h=>by simp at h
 | _ :: _,[],h=>by simp at h
 | x :: xs,p :: L,h=>by
  simp only [List.map_cons,List.cons.injEq] at h; simp only [ints,h.1,ints_of h.2]
theorem o_mm {t:Fr} (hf:FrR t S) {lt:Int->Int->Bool} {xs:List Opd} (hin:∀ x ∈ xs,inS S.length x) (e:k_mm lt (fos xs) t h = .ok v h'):∃ k n r,ints S xs = some ((k,n) :: r)/\h' = h/\v = .i k (r.foldl (λa b=>if lt b.2 a then b.2 else a) n):=by
 have hx:=gOs_ok hf hin
 unfold k_mm at e
 generalize gOs (fos xs) t = l at hx e
 cases l with
 | nil=>cases e
 | cons a l =>
  obtain ⟨k,n,rfl,e1⟩:=onI_ok (show onI _ a = .ok v h' from e); obtain ⟨L,h1,h2,h3⟩:=mm_ok e1; refine ⟨k,n,L,ints_of ?_,h2,h3⟩; rw [<- hx,toAs,h1]; rfl
theorem o_mn {t:Fr} (hf:FrR t S) {xs:List Opd} (hin:∀ x ∈ xs,inS S.length x) (hr:HpR h H) (e:k_mm ilt (fos xs) t h = .ok v h'):Res h H v h' rd λG a G'=>evK (.mn xs) S G = some (a,G'):=by
 obtain ⟨k,n,r,h1,rfl,rfl⟩:=o_mm hf hin e; refine .pure hr λG=>?_
 simp only [evK,h1,toA,ilt_eq,decide_eq_true_eq]
theorem o_mx {t:Fr} (hf:FrR t S) {xs:List Opd} (hin:∀ x ∈ xs,inS S.length x) (hr:HpR h H) (e:k_mm (λa b=>ilt b a) (fos xs) t h = .ok v h'):Res h H v h' rd λG a G'=>evK (.mx xs) S G = some (a,G'):=by
 obtain ⟨k,n,r,h1,rfl,rfl⟩:=o_mm hf hin e; refine .pure hr λG=>?_
 simp only [evK,h1,toA,ilt_eq,decide_eq_true_eq,gt_iff_lt]
theorem o_s2b {md:Md} {e0:Nat} (hx:get S x' = toA x) (hr:HpR h H) (e:k_s2b x h = .ok v h'):Res h H v h' rd λG a G'=>evK (.s2b md e0 x') S G = some (a,G'):=by
 obtain ⟨l,c,rfl,e1⟩:=onS_ok e; obtain ⟨h1,e2⟩:=bif_ok e1
 cases e2
 have h1:=Nat.le_of_ble_eq_true h1; refine .pure hr λG=>?_
 simp only [evK,hx,toA,size_bys]; rw [if_pos (by rw [mx_eq]; exact h1)]
theorem idxB_ge:∀ (L:List UInt8) (q:UInt8),-1<=idxB L q
 | [],q=>by simp [idxB]
 | a :: L,q=>by
  have:=idxB_ge L q; simp only [idxB]
  split
  ·omega
  ·split
   ·omega
   ·omega
theorem idxF_succ (l c b n:Nat):idxF (l + 1) c b n = bif' (Nat.beq (Nat.mod c 256) b) (.ofNat n) (idxF l (Nat.div c 256) b (Nat.succ n)):=rfl
theorem idxF_ok {b:Nat} (hb:b < 256):∀ (l c n:Nat),idxF l c b n = if idxB (bys l c) (UInt8.ofNat b) = -1 then -1 else idxB (bys l c) (UInt8.ofNat b) + n
 | 0,c,n=>by simp [bys,idxB]; rfl
 | l + 1,c,n=>by
  have h8:(UInt8.ofNat (c % 256) == UInt8.ofNat b) = Nat.beq (c % 256) b:=by
   rw [Bool.eq_iff_iff,beq_iff_eq,Nat.beq_eq]
   constructor
   ·intro h
    have:=congrArg UInt8.toNat h; simp at this; omega
   ·intro h; rw [h]
  rw [idxF_succ,show Nat.mod c 256 = c % 256 from rfl,show Nat.div c 256 = c / 256 from rfl]; simp only [bys,idxB,h8]
  cases hc:Nat.beq (c % 256) b with
  | true=>simp [bif_t]
  | false =>
   rw [bif_f,idxF_ok hb l]; have:=idxB_ge (bys l (c / 256)) (UInt8.ofNat b)
   by_cases hm:idxB (bys l (c / 256)) (UInt8.ofNat b) = -1
   ·simp [hm]
   ·simp only [hm,Bool.false_eq_true,if_false,beq_iff_eq]
    rw [if_neg (by omega)]; omega
theorem o_ixb {f:FuncId} (hx:get S x' = toA x) (hy:get S y' = toA y) (hr:HpR h H) (e:k_ixb x y h = .ok v h'):Res h H v h' rd λG a G'=>evK (.ixb f x' y') S G = some (a,G'):=by
 obtain ⟨l,c,rfl,e1⟩:=onS_ok e; obtain ⟨k,n,rfl,e2⟩:=onI_ok e1; obtain ⟨hk,e3⟩:=bif_ok e2; obtain ⟨b,rfl,e4⟩:=onN_ok e3; obtain rfl:k = .u8:=by cases k <;> first | rfl | cases hk
 rw [mkI_eq] at e4
 cases e4
 refine .pure hr λG=>?_
 have h1:UInt8.ofNat (b % 256) = UInt8.ofNat b:=UInt8.toNat_inj.1 (by simp); simp only [evK,hx,hy,toA,Int.ofNat_eq_natCast,Int.toNat_natCast]; rw [show Nat.mod b 256 = b % 256 from rfl,idxF_ok (Nat.mod_lt _ (by decide)),h1]
 congr 5
 split
 ·rename_i hm; exact hm
 ·simp
end
end
noncomputable section
theorem keyP1_of {x:FV} (h:keyP1 x):∃ u,toA x = .d (.v u)/\plainV u = true:=by
 rcases h with ⟨t,rfl⟩ | ⟨k,n,rfl⟩ | ⟨l,c,rfl⟩ <;> exact ⟨_,rfl,rfl⟩
theorem fitC_ok {kk:KC} {x:FV} (h:fitC kk x = true):keyP1 x/\∃ u,toA x = .d (.v u)/\plainV u = true/\kcFit kk u = true:=by
 cases kk with
 | b=>cases x <;> first | (cases h; done) | exact ⟨.inl ⟨_,rfl⟩,_,rfl,rfl,rfl⟩
 | s =>
  cases x <;> first | (cases h; done) | skip
  rename_i l c
  have h1:l<=9223372036854775807:=Nat.le_of_ble_eq_true h; refine ⟨.inr (.inr ⟨_,_,rfl⟩),_,rfl,rfl,?_⟩; simp only [kcFit,size_bys,decide_eq_true_eq]; rw [mx_eq]; exact h1
 | i k =>
  cases x <;> first | (cases h; done) | skip
  rename_i k' n
  have h0:bif' (Nat.beq (kN k) (kN k')) (bif' (ile k.min n) (ile n k.max) false) false = true:=h
  cases h1:Nat.beq (kN k) (kN k') with
  | false=>rw [h1] at h0; cases h0
  | true =>
   rw [h1,bif_t] at h0; obtain rfl:=kN_inj h1
   cases h2:ile k.min n with
   | false=>rw [h2] at h0; cases h0
   | true =>
    rw [h2,bif_t] at h0; rw [ile_eq] at h0 h2; exact ⟨.inr (.inl ⟨_,_,rfl⟩),_,rfl,rfl,by simp only [kcFit,beq_self_eq_true,h0,h2,Bool.and_self]⟩
theorem fitLF_ok:∀ {l:List KC} {cs:List FV},fitLF' l cs = true->(∀ c ∈ cs,keyP1 c)/\∃ vs,keysOf (toAs cs) = some vs/\fitL l vs = true
 | [],[],_=>⟨λc hc=>absurd hc List.not_mem_nil,[],rfl,rfl⟩
 | [],_ :: _,h=>by cases h
 | _ :: _,[],h=>by cases h
 | k :: l,a :: cs,h=>by
  have h0:bif' (fitC k a) (fitLF' l cs) false = true:=h
  cases h1:fitC k a with
  | false=>rw [h1] at h0; cases h0
  | true =>
   rw [h1,bif_t] at h0; obtain ⟨h2,u,h3,h4,h5⟩:=fitC_ok h1; obtain ⟨h6,vs,h7,h8⟩:=fitLF_ok h0; refine ⟨λc hc=>?_,u :: vs,by simp only [toAs,keysOf,h3,keyOf1,h4,if_true,h7],by simp only [fitL,h5,h8,Bool.and_self]⟩; rcases List.mem_cons.1 hc with rfl | hc
   ·exact h2
   ·exact h6 c hc
theorem fits_ok {kt:KT} {x:FV} (h:fits kt x = true):keyP x/\∃ kv,keyOf (toA x) = some kv/\keyFits kt kv = true:=by
 obtain ⟨ag,kk⟩:=kt
 cases ag with
 | true =>
  cases x <;> first | (cases h; done) | skip
  rename_i cs
  obtain ⟨h1,vs,h2,h3⟩:=fitLF_ok (show fitLF' kk cs = true from h); exact ⟨.inr ⟨cs,rfl,h1⟩,.agg vs.toArray,by simp only [toA,keyOf,h2],by simp only [keyFits]; exact h3⟩
 | false =>
  match kk,h with
  | [],h=>cases h
  | _ :: _ :: _,h=>cases h
  | [k],h =>
   obtain ⟨h1,u,h2,h3,h4⟩:=fitC_ok (show fitC k x = true from h); exact ⟨.inl h1,u,by rw [h2]; simp only [keyOf,h3,if_true],by simp only [keyFits,h4]⟩
theorem keq1_ok {a b:FV} (ha:keyP1 a) (hb:keyP1 b) {u w:Value} (h1:toA a = .d (.v u)) (h2:toA b = .d (.v w)):keq1' a b = keq1 u w:=by
 rcases ha with ⟨t,rfl⟩ | ⟨k,n,rfl⟩ | ⟨l,c,rfl⟩ <;> rcases hb with ⟨t',rfl⟩ | ⟨k',n',rfl⟩ | ⟨l',c',rfl⟩ <;> cases h1 <;> cases h2
 ·cases t <;> cases t' <;> rfl
 ·rfl
 ·rfl
 ·rfl
 ·show bif' (Nat.beq (kN k) (kN k')) (ieq n n') false = (k == k' && n == n')
  rw [ieq_eq]
  cases h:Nat.beq (kN k) (kN k') with
  | true=>obtain rfl:=kN_inj h; simp [bif_t]
  | false =>
   have:k ≠ k':=λe=>by subst e; rw [Nat.beq_refl] at h; cases h
   simp [bif_f,this]
 ·rfl
 ·rfl
 ·rfl
 ·exact seq8_eq l c l' c'
theorem keqL_ok:∀ {a b:List FV},(∀ c ∈ a,keyP1 c)->(∀ c ∈ b,keyP1 c)->∀ {u w:List Value},keysOf (toAs a) = some u->keysOf (toAs b) = some w->keqL' a b = keqL u w
 | [],[],_,_,u,w,h1,h2=>by cases h1; cases h2; rfl
 | [],y :: b,_,hb,u,w,h1,h2=>by
  cases h1
  obtain ⟨q,e1,e2⟩:=keyP1_of (hb y List.mem_cons_self); simp only [toAs,keysOf,e1,keyOf1,e2,if_true] at h2
  split at h2
  ·cases h2; rfl
  ·cases h2
 | x :: a,[],ha,_,u,w,h1,h2=>by
  cases h2
  obtain ⟨q,e1,e2⟩:=keyP1_of (ha x List.mem_cons_self); simp only [toAs,keysOf,e1,keyOf1,e2,if_true] at h1
  split at h1
  ·cases h1; rfl
  ·cases h1
 | x :: a,y :: b,ha,hb,u,w,h1,h2=>by
  obtain ⟨q,e1,e2⟩:=keyP1_of (ha x List.mem_cons_self); obtain ⟨r,e3,e4⟩:=keyP1_of (hb y List.mem_cons_self); simp only [toAs,keysOf,e1,keyOf1,e2,if_true] at h1; simp only [toAs,keysOf,e3,keyOf1,e4,if_true] at h2
  split at h1
  ·rename_i v1 v2 f1 f2
   cases f1
   cases h1
   split at h2
   ·rename_i w1 w2 f3 f4
    cases f3
    cases h2
    have ih:=keqL_ok (λc hc=>ha c (List.mem_cons_of_mem _ hc)) (λc hc=>hb c (List.mem_cons_of_mem _ hc)) f2 f4
    show bif' (keq1' x y) (keqL' a b) false = (keq1 q r && keqL v2 w2)
    rw [ih,keq1_ok (ha x List.mem_cons_self) (hb y List.mem_cons_self) e1 e3]
    cases keq1 q r <;> rfl
   ·cases h2
  ·cases h1
theorem keq_ok {a b:FV} (ha:keyP a) (hb:keyP b) {u w:Value} (h1:keyOf (toA a) = some u) (h2:keyOf (toA b) = some w):keq' a b = keq u w:=by
 have p1:∀ {x:FV} {u:Value},keyP1 x->keyOf (toA x) = some u->toA x = .d (.v u)/\∀ l,u ≠ .agg l:=λ{x u} hx hu=>by
  rcases hx with ⟨t,rfl⟩ | ⟨k,n,rfl⟩ | ⟨l,c,rfl⟩ <;> (simp only [toA,keyOf,plainV,if_true,Option.some.injEq] at hu; subst hu; exact ⟨rfl,λl e=>by cases e⟩)
 have k1:∀ {x y:FV},keyP1 x->keyP1 y->keq' x y = keq1' x y:=λ{x y} hx hy=>by
  rcases hx with ⟨t,rfl⟩ | ⟨k,n,rfl⟩ | ⟨l,c,rfl⟩ <;> rfl
 have q1:∀ {u w:Value},(∀ l,u ≠ .agg l)->keq u w = keq1 u w:=λ{u w} hu=>by
  cases u <;> first | rfl | exact absurd rfl (hu _)
 have q2:∀ {u w:Value},(∀ l,w ≠ .agg l)->keq u w = keq1 u w:=λ{u w} hw=>by
  cases u <;> first | rfl | (cases w <;> first | rfl | exact absurd rfl (hw _))
 rcases ha with ha | ⟨cs,rfl,ha⟩
 ·obtain ⟨e1,n1⟩:=p1 ha h1
  rcases hb with hb | ⟨ds,rfl,hb⟩
  ·obtain ⟨e2,n2⟩:=p1 hb h2
   rw [k1 ha hb,keq1_ok ha hb e1 e2,q1 n1]
  ·rw [q1 n1]
   simp only [toA,keyOf] at h2
   split at h2
   ·cases h2
    rcases ha with ⟨t,rfl⟩ | ⟨k,n,rfl⟩ | ⟨l,c,rfl⟩ <;> (cases e1; rfl)
   ·cases h2
 ·simp only [toA,keyOf] at h1
  split at h1
  ·rename_i vs hvs
   cases h1
   rcases hb with hb | ⟨ds,rfl,hb⟩
   ·obtain ⟨e2,n2⟩:=p1 hb h2
    rw [q2 n2]; rcases hb with ⟨t,rfl⟩ | ⟨k,n,rfl⟩ | ⟨l,c,rfl⟩ <;> (cases e2; rfl)
   ·simp only [toA,keyOf] at h2
    split at h2
    ·rename_i ws hws
     cases h2
     exact keqL_ok ha hb hvs hws
    ·cases h2
  ·cases h1
theorem EsR.len {es:Es} {l:List (Value × AV × Nat)} (h:EsR es l):Es.rec (motive:=λ_=>Nat) 0 (λ_ _ _ _ n=>Nat.succ n) es = l.length:=by
 induction h with
 | nil=>rfl
 | cons _ _ _ ih=>exact congrArg Nat.succ ih
section
variable {S:List AV} {h h':Hp} {H:List ABlk} {v x y w:FV} {x' y' w':Opd} {rd:List Nat}
theorem mget_ok {k:FV} {kv:Value} (hk:keyP k) (hkv:keyOf (toA k) = some kv) {z:FR} {f:FV->FR}:∀ {es:Es} {l:List (Value × AV × Nat)},EsR es l->mget es k z f = .ok v h'->(mapGet l kv = none/\z = .ok v h')\/∃ v0 c,mapGet l kv = some (toA v0,c)/\f v0 = .ok v h':=by
 intro es l hr
 induction hr with
 | nil=>intro e; exact .inl ⟨rfl,e⟩
 | cons h1 h2 h3 ih =>
  rename_i k' v' c r kv' l'
  intro e
  have e1:bif' (keq' k' k) (f v') (mget r k z f) = .ok v h':=e; have hq:=keq_ok h1 hk h2 hkv
  cases hb:keq kv' kv with
  | true =>
   rw [hq,hb,bif_t] at e1; exact .inr ⟨v',c,by simp only [mapGet,hb,if_true],e1⟩
  | false =>
   rw [hq,hb,bif_f] at e1; rcases ih e1 with ⟨h4,h5⟩ | ⟨v0,c0,h4,h5⟩
   ·exact .inl ⟨by simp only [mapGet,hb,Bool.false_eq_true,if_false,h4],h5⟩
   ·exact .inr ⟨v0,c0,by simp only [mapGet,hb,Bool.false_eq_true,if_false,h4],h5⟩
theorem mgetB_ok {k:FV} {kv:Value} (hk:keyP k) (hkv:keyOf (toA k) = some kv) {z:FR} {f:FV->Nat->FR}:∀ {es:Es} {l:List (Value × AV × Nat)},EsR es l->mgetB es k z f = .ok v h'->(mapGet l kv = none/\z = .ok v h')\/∃ v0 c,mapGet l kv = some (toA v0,c)/\f v0 c = .ok v h':=by
 intro es l hr
 induction hr with
 | nil=>intro e; exact .inl ⟨rfl,e⟩
 | cons h1 h2 h3 ih =>
  rename_i k' v' c r kv' l'
  intro e
  have e1:bif' (keq' k' k) (f v' c) (mgetB r k z f) = .ok v h':=e; have hq:=keq_ok h1 hk h2 hkv
  cases hb:keq kv' kv with
  | true =>
   rw [hq,hb,bif_t] at e1; exact .inr ⟨v',c,by simp only [mapGet,hb,if_true],e1⟩
  | false =>
   rw [hq,hb,bif_f] at e1; rcases ih e1 with ⟨h4,h5⟩ | ⟨v0,c0,h4,h5⟩
   ·exact .inl ⟨by simp only [mapGet,hb,Bool.false_eq_true,if_false,h4],h5⟩
   ·exact .inr ⟨v0,c0,by simp only [mapGet,hb,Bool.false_eq_true,if_false,h4],h5⟩
theorem mput_ok {k w:FV} {kv:Value} (hk:keyP k) (hkv:keyOf (toA k) = some kv) {ck:Nat}:∀ {es:Es} {l:List (Value × AV × Nat)},EsR es l->∀ {f:Nat->Es->FR},mput w k ck es f = .ok v h' ->
 ∃ es',EsR es' (mapPut ck l kv (toA w)).2/\f (mapPut ck l kv (toA w)).1 es' = .ok v h':=by
 intro es l hr
 induction hr with
 | nil=>intro f e; exact ⟨_,.cons hk hkv .nil,e⟩
 | cons h1 h2 h3 ih =>
  rename_i k' v' c r kv' l'
  intro f e
  have e1:bif' (keq' k' k) (f ck (.cons k' w c r)) (mput w k ck r λn r=>f n (.cons k' v' c r)) = .ok v h':=e; have hq:=keq_ok h1 hk h2 hkv
  cases hb:keq kv' kv with
  | true =>
   rw [hq,hb,bif_t] at e1; refine ⟨.cons k' w c r,?_,?_⟩
   ·simp only [mapPut,mapGet,hb,if_true,mapSet]
    exact .cons h1 h2 h3
   ·simp only [mapPut,mapGet,hb,if_true]
    exact e1
  | false =>
   rw [hq,hb,bif_f] at e1; obtain ⟨es',h4,h5⟩:=ih e1; refine ⟨.cons k' v' c es',?_,?_⟩
   ·unfold mapPut at h4 ⊢
    simp only [mapGet,hb,Bool.false_eq_true,if_false]
    cases hg:mapGet l' kv with
    | none=>rw [hg] at h4; exact .cons h1 h2 h4
    | some q=>rw [hg] at h4; simp only [mapSet,hb,Bool.false_eq_true,if_false]; exact .cons h1 h2 h4
   ·unfold mapPut at h5 ⊢
    simp only [mapGet,hb,Bool.false_eq_true,if_false]
    cases hg:mapGet l' kv with
    | none=>rw [hg] at h5; exact h5
    | some q=>rw [hg] at h5; exact h5
theorem mst_ok {t:Nat} {w:FV}:∀ {es:Es} {l:List (Value × AV × Nat)},EsR es l->∀ {f:Es->FR},mstF t w es f = .ok v h'->∃ es' l',mapSt l (t:Int) (toA w) = some l'/\EsR es' l'/\f es' = .ok v h':=by
 intro es l hr
 induction hr with
 | nil=>intro f e; cases e
 | cons h1 h2 h3 ih =>
  rename_i k' v' c r kv' l'
  intro f e
  have e1:bif' (Nat.beq c t) (f (.cons k' w c r)) (mstF t w r λr=>f (.cons k' v' c r)) = .ok v h':=e
  cases hb:Nat.beq c t with
  | true =>
   rw [hb,bif_t] at e1; obtain rfl:=Nat.eq_of_beq_eq_true hb; exact ⟨.cons k' w c r,(kv',toA w,c) :: l',by simp [mapSt],.cons h1 h2 h3,e1⟩
  | false =>
   rw [hb,bif_f] at e1; obtain ⟨es',l2,h4,h5,h6⟩:=ih e1; refine ⟨.cons k' v' c es',(kv',toA v',c) :: l2,?_,.cons h1 h2 h5,h6⟩; have hne:((c:Int) == (t:Int)) = false:=by
    rw [beq_eq_false_iff_ne]
    intro he
    have:c = t:=by omega
    rw [this,Nat.beq_refl] at hb; cases hb
   simp only [mapSt,hne,Bool.false_eq_true,if_false,h4]
theorem ktB_ok {a b:KT} (h:ktB a b = true):a = b:=of_decide_eq_true h
theorem o_mkm {kt:KT} (hr:HpR h H) (e:k_mkm kt h = .ok v h'):Res h H v h' rd λG a G'=>evK (.mkm kt) S G = some (a,G'):=by
 refine .new hr (blk:=.map kt 0 []) (x:=.m kt 0 .nil) ⟨[],rfl,.nil⟩ e λG p hG hp=>?_
 simp only [evK,toA,hG,hp]
theorem o_lk {kt:KT} {z:AV} {ok:Bool} (hx:get S x' = toA x) (hy:get S y' = toA y) (hr:HpR h H) (hrd:(nmOf x).ns ⊆ rd) (e:k_lk kt (fvA z) ok x y h = .ok v h'):Res h H v h' rd λG a G'=>evK (.lk kt z x' y' ok) S G = some (a,G'):=by
 obtain ⟨h1,e1⟩:=bif_ok (show bif' (fits kt y) _ FR.no = .ok v h' from e); obtain ⟨h2,kv,h3,h4⟩:=fits_ok h1; have none':∀ {v:FV} {h':Hp},FR.ok (bif' ok (.tup [fvA z,.b false]) (fvA z)) h = .ok v h'->h' = h/\toA v = if ok then .tup [z,.d (.v (.bool false))] else z:=λ{v h'} e=>by
  cases e
  refine ⟨rfl,?_⟩
  cases ok <;> simp [bif',toA,toAs,toA_fvA]
 rcases onM_ok e1 with ⟨rfl,e2⟩ | ⟨p,rfl,e2⟩
 ·obtain ⟨rfl,hv⟩:=none' e2
  refine .pure hr λG=>?_
  simp only [evK,hx,hy,h3,h4,if_true,toA,mapOf,mapGet,hv]
 ·have hm:num p ∈ rd:=hrd (by simp [nmOf,Lg.ns])
  have fin:∀ {kt':KT} {ck:Nat} {es:Es} {l l0:List (Value × AV × Nat)},H[num p]? = some (.map kt' ck l)->EsR es l0->(∀ kv,keyFits kt' kv = true->(mapGet l kv).map (·.1) = (mapGet l0 kv).map (·.1)) ->
   bif' (ktB kt' kt) (mget es y (.ok (bif' ok (.tup [fvA z,.b false]) (fvA z)) h) λv=>.ok (bif' ok (.tup [v,.b true]) v) h) .no = .ok v h'->Res h H v h' rd λG a G'=>evK (.lk kt z x' y' ok) S G = some (a,G'):=λ{kt' ck es l l0} hb hl hll e3=>by
   obtain ⟨hk,e4⟩:=bif_ok e3; obtain rfl:=ktB_ok hk; have hlk:=hll kv h4; rcases mget_ok h2 h3 hl e4 with ⟨h5,e5⟩ | ⟨v0,c,h5,e5⟩
   ·obtain ⟨rfl,hv⟩:=none' e5
    rw [h5] at hlk; have h6:mapGet l kv = none:=Option.map_eq_none_iff.1 hlk; refine .read hr hb hm λG hG=>?_
    simp only [evK,hx,hy,h3,h4,if_true,toA,mapOf,hG,h6,hv]
   ·cases e5
    rw [h5] at hlk; obtain ⟨q,h6,h7⟩:=Option.map_eq_some_iff.1 (show (mapGet l kv).map (·.1) = some _ from hlk); refine .read hr hb hm λG hG=>?_
    simp only [evK,hx,hy,h3,h4,if_true,toA,mapOf,hG,h6,h7]
    cases ok <;> simp [bif',toA,toAs]
  rcases mapLF_ok e2 with ⟨kt',ck,es,hp,e3⟩ | ⟨kt',es,hp,e3⟩
  ·obtain ⟨l,hb,hl⟩:=hr.map hp
   exact fin hb hl (λ_ _=>rfl) e3
  ·obtain ⟨ck,l,l0,hb,hl,hll⟩:=hr.mapf hp
   exact fin hb hl hll e3
theorem shownB_ok {x:FV} (h:shownB x = true):shown (toA x) = true:=by cases x <;> first | (cases h; done) | rfl | exact h
theorem o_mu {kt:KT} (hx:get S x' = toA x) (hy:get S y' = toA y) (hw:get S w' = toA w) (hr:HpR h H) (e:k_mu kt x y w h = .ok v h'):Res h H v h' rd λG a G'=>evK (.mu kt x' y' w') S G = some (a,G'):=by
 obtain ⟨h1,e1⟩:=bif_ok (show bif' (fits kt y) _ FR.no = .ok v h' from e); obtain ⟨hs,e2⟩:=bif_ok e1; obtain ⟨h2,kv,h3,h4⟩:=fits_ok h1; rcases onM_ok e2 with ⟨rfl,e3⟩ | ⟨p,rfl,e3⟩
 ·cases e3
 ·obtain ⟨kt',ck,es,hp,e4⟩:=mapOfF_ok e3
  obtain ⟨hk,e5⟩:=bif_ok e4; obtain rfl:=ktB_ok hk; obtain ⟨l,hb,hl⟩:=hr.map hp; obtain ⟨es',h5,e6⟩:=mput_ok h2 h3 hl e5
  cases e6
  refine .set hr hb (λe=>by cases e) (x:=.m kt' (mapPut ck l kv (toA w)).1 es') (blk:=.map kt' (mapPut ck l kv (toA w)).1 (mapPut ck l kv (toA w)).2) ⟨_,rfl,h5⟩ λG hG=>?_
  simp only [evK,hx,hy,hw,toA,h3,h4,shownB_ok hs,and_self,if_true,hG,toAs]
theorem o_me {kt:KT} {z:AV} (hx:get S x' = toA x) (hy:get S y' = toA y) (hr:HpR h H) (hrd:(nmOf x).ns ⊆ rd) (e:k_me kt (fvA z) x y h = .ok v h'):Res h H v h' rd λG a G'=>evK (.me kt z x' y') S G = some (a,G'):=by
 obtain ⟨h1,e1⟩:=bif_ok (show bif' (fits kt y) _ FR.no = .ok v h' from e); obtain ⟨h2,kv,h3,h4⟩:=fits_ok h1; rcases onM_ok e1 with ⟨rfl,e2⟩ | ⟨p,rfl,e2⟩
 ·cases e2
 ·obtain ⟨kt',ck,es,hp,e3⟩:=mapOfF_ok e2
  obtain ⟨hk,e4⟩:=bif_ok e3; obtain rfl:=ktB_ok hk; obtain ⟨l,hb,hl⟩:=hr.map hp; rcases mgetB_ok h2 h3 hl e4 with ⟨h5,e5⟩ | ⟨v0,c,h5,e5⟩
  ·obtain ⟨es',h6,e6⟩:=mput_ok h2 h3 hl e5
   simp only [mapPut,h5,toA_fvA] at h6 e6
   cases e6
   refine .set hr hb (λe=>by cases e) (x:=.m kt' (ck + 1) es') (blk:=.map kt' (ck + 1) (l ++ [(kv,z,ck)])) ⟨_,rfl,h6⟩ λG hG=>?_
   simp only [evK,hx,hy,toA,h3,h4,if_true,hG,h5,toAs,toA_fvA]
   rfl
  ·cases e5
   refine .read hr hb (hrd (by simp [nmOf,Lg.ns])) λG hG=>?_
   simp only [evK,hx,hy,toA,h3,h4,if_true,hG,h5,toAs]
   rfl
theorem o_mes (hx:get S x' = toA x) (hy:get S y' = toA y) (hw:get S w' = toA w) (hr:HpR h H) (e:k_mes x y w h = .ok v h'):Res h H v h' rd λG a G'=>evK (.mes x' y' w') S G = some (a,G'):=by
 obtain ⟨hs,e1⟩:=bif_ok (show bif' (shownB w) _ FR.no = .ok v h' from e); rcases onM_ok e1 with ⟨rfl,e2⟩ | ⟨p,rfl,e2⟩
 ·cases e2
 ·obtain ⟨kt,ck,es,hp,e3⟩:=mapOfF_ok e2
  obtain ⟨k,t,rfl,e4⟩:=onI_ok e3; obtain ⟨t,rfl,e5⟩:=onN_ok e4; obtain ⟨l,hb,hl⟩:=hr.map hp; obtain ⟨es',l',h5,h6,e6⟩:=mst_ok hl e5
  cases e6
  refine .set hr hb (λe=>by cases e) (x:=.m kt ck es') (blk:=.map kt ck l') ⟨_,rfl,h6⟩ λG hG=>?_
  simp only [evK,hx,hy,hw,toA,hG,shownB_ok hs,if_true,Int.ofNat_eq_natCast,h5,toAs]
theorem o_mlen (hx:get S x' = toA x) (hr:HpR h H) (hrd:(nmOf x).ns ⊆ rd) (e:k_mlen x h = .ok v h'):Res h H v h' rd λG a G'=>evK (.mlen x') S G = some (a,G'):=by
 rcases onM_ok e with ⟨rfl,e1⟩ | ⟨p,rfl,e1⟩
 ·cases e1
  exact .pure hr λG=>by simp only [evK,hx,toA]
 ·obtain ⟨kt,ck,es,hp,e2⟩:=mapOfF_ok e1
  rw [fN_eq] at e2
  cases e2
  obtain ⟨l,hb,hl⟩:=hr.map hp; refine .read hr hb (hrd (by simp [nmOf,Lg.ns])) λG hG=>?_
  simp only [evK,hx,toA,hG,hl.len,Int.ofNat_eq_natCast]
theorem o_eqg {kt:KT} {neg:Bool} (hx:get S x' = toA x) (hy:get S y' = toA y) (hr:HpR h H) (e:k_eqg kt neg x y h = .ok v h'):Res h H v h' rd λG a G'=>evK (.eqg kt neg x' y') S G = some (a,G'):=by
 obtain ⟨h1,e1⟩:=bif_ok (show bif' (fits kt x) _ FR.no = .ok v h' from e); obtain ⟨h2,e2⟩:=bif_ok e1
 cases e2
 obtain ⟨p1,u,q1,r1⟩:=fits_ok h1; obtain ⟨p2,w,q2,r2⟩:=fits_ok h2; refine .pure hr λG=>?_
 simp only [evK,hx,hy,q1,q2,r1,r2,and_self,if_true,toA,keq_ok p1 p2 q1 q2]
 cases neg <;> cases keq u w <;> rfl
end
end
noncomputable section
def isCall:K->Bool
 | .call .. | .callv .. | .inv ..=>true
 | _=>false
theorem ns_app (a b:Lg):(appLg a b).ns = a.ns ++ b.ns:=by
 induction a with
 | nil=>rfl
 | cons p r ih=>show num p :: (appLg r b).ns = _; rw [ih]; rfl
theorem inS_mem {n:Nat} {l:List Opd} (h:∀ t ∈ l.flatMap Opd.sl,t < n):∀ x ∈ l,inS n x:=λx hx t ht=>h t (List.mem_flatMap.2 ⟨x,hx,ht⟩)
theorem inS_o {n:Nat} {x:Option Opd} (h:∀ t ∈ Opd.slO x,t < n):∀ y,x = some y->inS n y:=λy e t ht=>h t (by subst e; exact ht)
theorem in2 {n:Nat} {a b:List Nat} (h:∀ t ∈ a ++ b,t < n):(∀ t ∈ a,t < n)/\∀ t ∈ b,t < n:=⟨λt ht=>h t (List.mem_append.2 (.inl ht)),λt ht=>h t (List.mem_append.2 (.inr ht))⟩
section
variable {F:FC'} {okf:Nat->Bool} {t:Fr} {S:List AV} {h h':Hp} {H:List ABlk} {v:FV}
theorem no_ok {p:Prop} (e:evFK F okf .no t h = .ok v h'):p:=by cases (show FR.no = .ok v h' from e)
theorem evFK_ok (hf:FrR t S) {k:K} (hsl:∀ n ∈ k.sl,n < S.length) (hc:isCall k = false) (hr:HpR h H) (e:evFK F okf (fk k) t h = .ok v h') :
 Res h H v h' (rdOfF (krd k) t).ns λG a G'=>evK k S G = some (a,G'):=by
 have g:∀ {x:Opd},(∀ n ∈ x.sl,n < S.length)->get S x = toA (gO (fo x) t):=λhx=>gO_ok hf hx
 have r1:∀ {x:Opd},(nmOf (gO (fo x) t)).ns ⊆ (rdOfF (.one (fo x)) t).ns:=by intro x y hy; exact hy
 have r2:∀ {x y:Opd},(nmOf (gO (fo x) t)).ns ++ (nmOf (gO (fo y) t)).ns ⊆ (rdOfF (.two (fo x) (fo y)) t).ns:=by
  intro x y z hz
  show z ∈ (appLg (nmOf (gO (fo x) t)) (nmOf (gO (fo y) t))).ns
  rw [ns_app]; exact hz
 cases k with
 | mv x=>cases (show FR.ok (gO (fo x) t) h = .ok v h' from e); exact o_mv (g hsl) hr
 | mvg _ _ x=>exact no_ok e
 | pick c a b=>obtain ⟨h1,h3⟩:=in2 hsl; obtain ⟨h1,h2⟩:=in2 h1; exact o_pick (g h1) (g h2) (g h3) hr e
 | al z=>exact o_al hr e
 | alb _=>exact no_ok e
 | bx x=>exact o_bx (g hsl) hr e
 | bd z ps=>exact o_bd hf (λx hx t ht=>hsl t (List.mem_flatMap.2 ⟨x,hx,ht⟩)) hr e
 | bs md e0 sz ps =>
  cases md with
  | hp=>exact o_bs hf (inS_mem hsl) hr e
  | _=>exact no_ok e
 | ld x n ag =>
  cases ag with
  | true=>exact o_ldn (g hsl) hr r1 e
  | false =>
   by_cases hn:n = 1
   ·subst hn; exact o_ld (g hsl) hr r1 e
   ·have : fk (.ld x n false) = .no := by
     show (bif n == 1 then FK.ld (fo x) else .no) = _
     rw [beq_false_of_ne hn]; rfl
    rw [this] at e; exact no_ok e
 | st x y n =>
  obtain ⟨h1,h2⟩:=in2 hsl
  by_cases hn:n = 1
  ·subst hn; exact o_st (g h1) (g h2) hr e
  ·have : fk (.st x y n) = .stn n (fo x) (fo y) := by
    show (bif n == 1 then FK.st (fo x) (fo y) else .stn n (fo x) (fo y)) = _
    rw [beq_false_of_ne hn]; rfl
   rw [this] at e; exact o_stn (g h1) (g h2) hr e
 | nc x=>exact o_nc (g hsl) hr e
 | bin op x y=>obtain ⟨h1,h2⟩:=in2 hsl; exact o_bin (g h1) (g h2) hr e
 | un op x=>exact o_un (g hsl) hr e
 | cvi k x=>exact o_cvi (g hsl) hr e
 | fa x off=>exact o_fa (g hsl) hr e
 | fld x off n ag =>
  cases ag with
  | true=>exact o_fldn (g hsl) hr e
  | false =>
   by_cases hn:n = 1
   ·subst hn; exact o_fld (g hsl) hr e
   ·have : fk (.fld x off n false) = .no := by
     show (bif n == 1 then FK.fld off (fo x) else .no) = _
     rw [beq_false_of_ne hn]; rfl
    rw [this] at e; exact no_ok e
 | ia x i sz=>obtain ⟨h1,h2⟩:=in2 hsl; exact o_ia (g h1) (g h2) hr e
 | iar x i n sz=>obtain ⟨h1,h2⟩:=in2 hsl; exact o_iar (g h1) (g h2) hr e
 | ix x i=>obtain ⟨h1,h2⟩:=in2 hsl; exact o_ix (g h1) (g h2) hr e
 | ixv x i n=>obtain ⟨h1,h2⟩:=in2 hsl; exact o_ixv (g h1) (g h2) hr e
 | sli str x lo hi sz =>
  obtain ⟨h1,h3⟩:=in2 hsl; obtain ⟨h1,h2⟩:=in2 h1
  cases str with
  | true=>exact o_sls hf (inS_o h2) (inS_o h3) (g h1) hr e
  | false=>exact o_slh hf (inS_o h2) (inS_o h3) (g h1) hr e
 | sla x lo hi n sz =>
  obtain ⟨h1,h3⟩:=in2 hsl; obtain ⟨h1,h2⟩:=in2 h1
  by_cases hn:Nat.ble n 140737488355328 = true
  ·have : fk (.sla x lo hi n sz) = .sla n sz (foo lo) (foo hi) (fo x) := by
    show (bif Nat.ble n 140737488355328 then FK.sla n sz (foo lo) (foo hi) (fo x) else .no) = _
    rw [hn]; rfl
   rw [this] at e; obtain ⟨pre,H',a,b,c⟩:=o_sla (rd:=(rdOfF (.one (fo x)) t).ns) hf (inS_o h2) (inS_o h3) (g h1) hr r1 e; exact ⟨pre,H',a,b,λu hu=>c u hu (le_max (Nat.le_of_ble_eq_true hn))⟩
  ·have : fk (.sla x lo hi n sz) = .no := by
    show (bif Nat.ble n 140737488355328 then FK.sla n sz (foo lo) (foo hi) (fo x) else .no) = _
    rw [Bool.eq_false_iff.2 hn]; rfl
   rw [this] at e; exact no_ok e
 | slz x=>exact no_ok e
 | ext x i=>exact o_ext (g hsl) hr e
 | call f args=>cases hc
 | callv g args=>cases hc
 | inv tb x args=>cases hc
 | len str x =>
  cases str with
  | true=>exact o_lens (g hsl) hr e
  | false=>exact o_lenh (g hsl) hr e
 | app md e0 sz by' a x =>
  obtain ⟨h1,h2⟩:=in2 hsl
  cases md with
  | hp=>exact o_app (g h1) (g h2) hr r2 e
  | _=>exact no_ok e
 | mn xs=>exact o_mn hf (inS_mem hsl) hr e
 | mx xs=>exact o_mx hf (inS_mem hsl) hr e
 | mkf f caps=>cases (show FR.ok (.fn f (gOs (fos caps) t)) h = .ok v h' from e); exact o_mkf hf (inS_mem hsl) hr
 | mkb f caps=>cases (show FR.ok (.fnb f (gOs (fos caps) t)) h = .ok v h' from e); exact o_mkb hf (inS_mem hsl) hr
 | mks md e0 sz by' z n c=>obtain ⟨h1,h2⟩:=in2 hsl; exact o_mks (g h1) (g h2) hr e
 | cpy sz x y=>obtain ⟨h1,h2⟩:=in2 hsl; exact o_cpy (g h1) (g h2) hr r2 e
 | mkm kt=>exact o_mkm hr e
 | lk kt z m k ok=>obtain ⟨h1,h2⟩:=in2 hsl; exact o_lk (g h1) (g h2) hr r1 e
 | mu kt m k w=>obtain ⟨h1,h3⟩:=in2 hsl; obtain ⟨h1,h2⟩:=in2 h1; exact o_mu (g h1) (g h2) (g h3) hr e
 | me kt z m k=>obtain ⟨h1,h2⟩:=in2 hsl; exact o_me (g h1) (g h2) hr r1 e
 | mes m k w=>obtain ⟨h1,h3⟩:=in2 hsl; obtain ⟨h1,h2⟩:=in2 h1; exact o_mes (g h1) (g h2) (g h3) hr e
 | del kt m k=>exact no_ok e
 | ixb f x c=>obtain ⟨h1,h2⟩:=in2 hsl; exact o_ixb (g h1) (g h2) hr e
 | eqg kt neg x y=>obtain ⟨h1,h2⟩:=in2 hsl; exact o_eqg (g h1) (g h2) hr e
 | isn mp neg x=>exact o_isn (g hsl) hr e
 | s2b md e0 x=>exact o_s2b (g hsl) hr e
 | b2s x=>exact o_b2s (g hsl) hr r1 e
 | eqs neg x y=>obtain ⟨h1,h2⟩:=in2 hsl; exact o_eqs (g h1) (g h2) hr e
 | eqp neg x y=>obtain ⟨h1,h2⟩:=in2 hsl; exact o_eqp (g h1) (g h2) hr e
 | eqi neg x=>exact o_eqi (g hsl) hr e
 | mki ty x=>cases (show FR.ok (.ifc ty (gO (fo x) t)) h = .ok v h' from e); exact o_mki (g hsl) hr
 | tas ty z x ok=>exact o_tas (g hsl) hr e
 | mlen x=>exact o_mlen (g hsl) hr r1 e
 | rng x=>exact no_ok e
 | nxt x=>exact no_ok e
 | ent x=>exact no_ok e
end
end
noncomputable section
def FOk (P:Program) (F:FC'):Prop:=
 ∀ ⦃f:Nat⦄ ⦃args:List FV⦄ ⦃h:Hp⦄ ⦃H:List ABlk⦄ ⦃v:FV⦄ ⦃h':Hp⦄,HpR h H->F f args h = .ok v h'->∃ pre H',HpR h' H'/\Fra pre h h' H H'/\ACalls P f (toAs args) H λv' H''=>v' = toA v/\H'' = H'
def KCalls (P:Program) (k:K) (S:List AV) (H:List ABlk) (Φ:AV->List ABlk->Prop):Prop:=
 match k with
 | .call f args=>ACalls P f (args.map (get S)) H Φ
 | .callv g args=>match get S g with
  | .fn f caps=>callOk P f = true/\ACalls P f (args.map (get S) ++ caps) H Φ
  | .fnb f first=>callOk P f = true/\ACalls P f (first ++ args.map (get S)) H Φ
  | _=>False
 | .inv tb x args=>match get S x with
  | .ifc t v=>match tbF tb t with
   | some f=>ACalls P f (v :: args.map (get S)) H Φ
   | none=>False
  | _=>False
 | k=>match evK k S H with
  | some (v,H')=>Φ v H'
  | none=>False
theorem wpIns_one {P:Program} {i:Ins} {r:List Ins} {S:List AV} {H:List ABlk} {Kk:List AV->List ABlk->Prop} (hg:wanted S i.g = some true)
 (h:KCalls P i.k S H λv H'=>wpIns P r (setO S i.dst v) H' Kk):wpIns P (i :: r) S H Kk:=by
 obtain ⟨d,k,g⟩:=i; simp only at hg h
 cases k <;> (simp only [wpIns,hg]; exact h)
theorem wpIns_off {P:Program} {i:Ins} {r:List Ins} {S:List AV} {H:List ABlk} {Kk:List AV->List ABlk->Prop} (hg:wanted S i.g = some false)
 (h:wpIns P r (setO S i.dst (.tup [])) H Kk):wpIns P (i :: r) S H Kk:=by
 simp only [wpIns,hg]; exact h
section
variable {P:Program} {F:FC'} {okf:Nat->Bool} {t:Fr} {S:List AV} {h h':Hp} {H:List ABlk} {v:FV}
theorem tb_ok {ty:Nat} {args:List FV}:∀ {tb:List (TypeId × FuncId)},(Tb.rec (motive:=λ_=>FR) .no (λt' f _ ih=>bif' (Nat.beq t' ty) (F f args h) ih) (ftb tb)) = .ok v h'->∃ f,tbF tb ty = some f/\F f args h = .ok v h'
 | [],e=>by cases e
 | (t',f) :: r,e=>by
  have e:bif' (Nat.beq t' ty) (F f args h) (Tb.rec (motive:=λ_=>FR) .no (λt' f _ ih=>bif' (Nat.beq t' ty) (F f args h) ih) (ftb r)) = .ok v h':=e
  by_cases ht:t' = ty
  ·subst ht
   rw [show Nat.beq t' t' = true from Nat.beq_refl t'] at e; exact ⟨f,by simp [tbF],e⟩
  ·have hb : Nat.beq t' ty = false := by
    cases hq:Nat.beq t' ty with
    | true=>exact absurd (Nat.eq_of_beq_eq_true hq) ht
    | false=>rfl
   rw [hb] at e; obtain ⟨g,h1,h2⟩:=tb_ok (tb:=r) e; refine ⟨g,?_,h2⟩
   show (if t' == ty then some f else tbF r ty) = some g
   rw [beq_false_of_ne ht]; exact h1
theorem k_inv_ok {tb:List (TypeId × FuncId)} {x:FV} {args:List FV} (e:k_inv F (ftb tb) x args h = .ok v h'):∃ ty y f,x = .ifc ty y/\tbF tb ty = some f/\F f (y :: args) h = .ok v h':=by
 cases x with
 | ifc ty y =>
  obtain ⟨f,h1,h2⟩:=tb_ok (F:=F) (args:=y :: args) (tb:=tb) e; exact ⟨ty,y,f,rfl,h1,h2⟩
 | _=>exact absurd (show FR.no = .ok v h' from e) (by intro q; cases q)
theorem k_callv_ok {x:FV} {args:List FV} (e:k_callv F okf x args h = .ok v h') :
 ∃ f cs,okf f = true/\((x = .fn f cs/\F f (args ++ cs) h = .ok v h')\/(x = .fnb f cs/\F f (cs ++ args) h = .ok v h')):=by
 cases x with
 | fn f cs =>
  obtain ⟨h1,h2⟩:=bif_ok (show bif' (okf f) (F f (appL args cs) h) .no = .ok v h' from e); rw [appL_eq] at h2; exact ⟨f,cs,h1,.inl ⟨rfl,h2⟩⟩
 | fnb f cs =>
  obtain ⟨h1,h2⟩:=bif_ok (show bif' (okf f) (F f (appL cs args) h) .no = .ok v h' from e); rw [appL_eq] at h2; exact ⟨f,cs,h1,.inr ⟨rfl,h2⟩⟩
 | _=>exact absurd (show FR.no = .ok v h' from e) (by intro q; cases q)
theorem evFK_any (hF:FOk P F) (hok:∀ f,okf f = true->callOk P f = true) (hf:FrR t S) {k:K} (hsl:∀ n ∈ k.sl,n < S.length) (hr:HpR h H) (e:evFK F okf (fk k) t h = .ok v h') :
 ∃ pre H',HpR h' H'/\Fra pre h h' H H'/\∀ Φ:AV->List ABlk->Prop,Φ (toA v) H'->KCalls P k S H Φ:=by
 by_cases hc:isCall k = false
 ·obtain ⟨pre,H',a,b,c⟩:=evFK_ok hf hsl hc hr e
  have c:=c [] (λb hb=>absurd hb List.not_mem_nil); refine ⟨pre,H',a,b,λΦ hΦ=>?_⟩; have c:evK k S H = some (toA v,H'):=c
  cases k <;> first | (cases hc; done) | (simp only [KCalls,c]; exact hΦ)
 ·cases k with
  | call f args =>
   obtain ⟨pre,H',a,b,c⟩:=hF hr (show F f (gOs (fos args) t) h = .ok v h' from e); rw [gOs_ok hf (inS_mem hsl)] at c; exact ⟨pre,H',a,b,λΦ hΦ=>ACalls.mono c λv' H'' q=>by rw [q.1,q.2]; exact hΦ⟩
  | callv g args =>
   obtain ⟨h1,h2⟩:=in2 hsl; have eg:=gO_ok hf (x:=g) h1; obtain ⟨f,cs,ho,⟨hx,e1⟩ | ⟨hx,e1⟩⟩:=k_callv_ok (show k_callv F okf (gO (fo g) t) (gOs (fos args) t) h = .ok v h' from e)
   ·obtain ⟨pre,H',a,b,c⟩:=hF hr e1
    rw [toAs_append,gOs_ok hf (inS_mem h2)] at c; refine ⟨pre,H',a,b,λΦ hΦ=>?_⟩; rw [hx] at eg; simp only [KCalls,eg,toA]; exact ⟨hok f ho,ACalls.mono c λv' H'' q=>by rw [q.1,q.2]; exact hΦ⟩
   ·obtain ⟨pre,H',a,b,c⟩:=hF hr e1
    rw [toAs_append,gOs_ok hf (inS_mem h2)] at c; refine ⟨pre,H',a,b,λΦ hΦ=>?_⟩; rw [hx] at eg; simp only [KCalls,eg,toA]; exact ⟨hok f ho,ACalls.mono c λv' H'' q=>by rw [q.1,q.2]; exact hΦ⟩
  | inv tb x args =>
   obtain ⟨h1,h2⟩:=in2 hsl; have eg:=gO_ok hf (x:=x) h1; obtain ⟨ty,y,f,hx,ht,e1⟩:=k_inv_ok (show k_inv F (ftb tb) (gO (fo x) t) (gOs (fos args) t) h = .ok v h' from e); obtain ⟨pre,H',a,b,c⟩:=hF hr e1; rw [show toAs (y :: gOs (fos args) t) = toA y :: toAs (gOs (fos args) t) from rfl,gOs_ok hf (inS_mem h2)] at c; refine ⟨pre,H',a,b,λΦ hΦ=>?_⟩; rw [hx] at eg; simp only [KCalls,eg,toA,ht]; exact ACalls.mono c λv' H'' q=>by rw [q.1,q.2]; exact hΦ
  | _=>exact absurd rfl hc
theorem guard_ok (hf:FrR t S) {i:Nat} {b:Bool} (hi:i < S.length) {y n:FX} {e:FE} {t':Fr} (hg:guard (.ok i b) t y n = .ok e t' h') :
 (wanted S (some (i,b)) = some true/\y = .ok e t' h')\/(wanted S (some (i,b)) = some false/\n = .ok e t' h'):=by
 have hs:=hf.at' i hi; have hg:FV.rec (motive_1:=λ_=>FX) (motive_2:=λ_=>Unit) .no .no .no .no .no .no .no (λ_=>.no) (λ_=>.no) (λ_ _ _=>.no) (λ_ _ _=>.no) (λ_ _ _=>.no) (λcs _=>lcs n (λ_ _=>.no) cs) (λ_ _=>.no) (λ_ _ _ _ _=>.no) (λ_ _=>.no) (λu=>bif' u (bif' b y n) (bif' b n y)) (λ_ _=>.no) (λ_ _=>.no) () (λ_ _ _ _=>()) (slot i t) = .ok e t' h':=hg
 cases hx:slot i t with
 | tup cs =>
  rw [hx] at hg hs
  cases cs with
  | nil=>exact .inr ⟨by simp only [wanted,hs,toA,toAs],hg⟩
  | cons a r=>cases hg
 | b u =>
  rw [hx] at hg hs; simp only [wanted,hs,toA]
  cases u <;> cases b
  ·exact .inl ⟨rfl,hg⟩
  ·exact .inr ⟨rfl,hg⟩
  ·exact .inr ⟨rfl,hg⟩
  ·exact .inl ⟨rfl,hg⟩
 | _=>rw [hx] at hg; exact absurd (show FX.no = .ok e t' h' from hg) (by intro q; cases q)
theorem onR_ok {k:FV->Hp->FX} {r:FR} {e:FE} {t':Fr} (hk:onR k r = .ok e t' h'):∃ v h1,r = .ok v h1/\k v h1 = .ok e t' h':=by
 cases r with
 | no=>cases hk
 | ok v h1=>exact ⟨v,h1,rfl,hk⟩
structure InsIn (n:Nat) (i:Ins):Prop where
 sl:∀ m ∈ i.sl,m < n
 dst:∀ d,i.dst = some d->d < n
theorem okI_ok {n:Nat} {i:Ins} (h:okI n i = true):InsIn n i:=by
 obtain ⟨h1,h2⟩:=Bool.and_eq_true_iff.1 h; refine ⟨λm hm=>blt_iff.1 (List.all_eq_true.1 h1 m hm),λd hd=>?_⟩; rw [hd] at h2; exact blt_iff.1 h2
theorem putD_ok (hf:FrR t S) {d:Option Nat} (hd:∀ x,d = some x->x < S.length) (v:FV):FrR (putD (fd d) v t) (setO S d (toA v)):=by
 cases d with
 | none=>exact hf
 | some x=>exact hf.set (Nat.lt_of_lt_of_le (hd x rfl) hf.len) v
theorem setO_len (S:List AV) (d:Option Nat) (a:AV):(setO S d a).length = S.length:=by cases d <;> simp [setO]
def ResI (P:Program) (l:List Ins) (S:List AV) (h:Hp) (H:List ABlk) (e:FE) (t':Fr) (h':Hp):Prop:=
 e = .nrm/\∃ pre S' H',HpR h' H'/\Fra pre h h' H H'/\FrR t' S'/\S'.length = S.length/\∀ Kk:List AV->List ABlk->Prop,Kk S' H'->wpIns P l S H Kk
theorem ResI.step {i:Ins} {r:List Ins} (hF:FOk P F) (hok:∀ f,okf f = true->callOk P f = true) (hf:FrR t S) (hi:InsIn S.length i) (hr:HpR h H) {e:FE} {t':Fr} {h1:Hp}
 (hw:wanted S i.g = some true) (he:evFK F okf (fk i.k) t h = .ok v h1) (ih:∀ H1,HpR h1 H1->ResI P r (setO S i.dst (toA v)) h1 H1 e t' h'):ResI P (i :: r) S h H e t' h':=by
 obtain ⟨pre,H1,a,b,c⟩:=evFK_any hF hok hf (λn hn=>hi.sl n (List.mem_append.2 (.inl hn))) hr he; obtain ⟨q,pre',S',H',a',b',f',l',k'⟩:=ih H1 a; exact ⟨q,pre' ++ pre,S',H',a',b.trans b',f',by rw [l',setO_len],λKk hK=>wpIns_one hw (c _ (k' Kk hK))⟩
theorem ResI.off {i:Ins} {r:List Ins} {e:FE} {t':Fr} (hw:wanted S i.g = some false) (ih:ResI P r (setO S i.dst (.tup [])) h H e t' h'):ResI P (i :: r) S h H e t' h':=by
 obtain ⟨q,pre',S',H',a',b',f',l',k'⟩:=ih; exact ⟨q,pre',S',H',a',b',f',by rw [l',setO_len],λKk hK=>wpIns_off hw (k' Kk hK)⟩
theorem fi1_c {d:Nat} {k:K} {r:FIs} (hk:∀ x,k ≠ .mv x):fi1 (some d) none k r = .c d (fk k) r:=by
 cases k <;> first | rfl | exact absurd rfl (hk _)
theorem fIs_ok (hF:FOk P F) (hok:∀ f,okf f = true->callOk P f = true):∀ {l:List Ins} {t:Fr} {S:List AV} {h:Hp} {H:List ABlk} {e:FE} {t':Fr} {h':Hp},
 (∀ i ∈ l,InsIn S.length i)->FrR t S->HpR h H->fIs F okf (fis l) t h = .ok e t' h'->ResI P l S h H e t' h'
 | [],t,S,h,H,e,t',h',_,hf,hr,hx=>by
  cases (show FX.ok .nrm t h = .ok e t' h' from hx)
  exact ⟨rfl,[],S,H,hr,.refl h H,hf,rfl,λKk hK=>by rw [wpIns_nil]; exact hK⟩
 | i :: l,t,S,h,H,e,t',h',hi,hf,hr,hx=>by
  have hi0:=hi i List.mem_cons_self; have hil:∀ a:AV,∀ j ∈ l,InsIn (setO S i.dst a).length j:=λa j hj=>by rw [setO_len]; exact hi j (List.mem_cons_of_mem _ hj)
  obtain ⟨dst,k,g⟩:=i
  cases g with
  | some g =>
   obtain ⟨gi,gb⟩:=g; have hx:guard (.ok gi gb) t (onR (λv h=>fIs F okf (fis l) (putD (fd dst) v t) h) (evFK F okf (fk k) t h)) (fIs F okf (fis l) (putD (fd dst) (.tup []) t) h) = .ok e t' h':=hx; have hg:gi < S.length:=hi0.sl gi (List.mem_append.2 (.inr (by simp))); rcases guard_ok hf hg hx with ⟨hw,h1⟩ | ⟨hw,h1⟩
   ·obtain ⟨v,h2,e1,e2⟩:=onR_ok h1
    exact .step hF hok hf hi0 hr hw e1 λH1 a=>fIs_ok hF hok (hil _) (putD_ok hf hi0.dst v) a e2
   ·exact .off hw (fIs_ok hF hok (hil _) (putD_ok hf hi0.dst (.tup [])) hr h1)
  | none =>
   cases dst with
   | none =>
    obtain ⟨v,h2,e1,e2⟩:=onR_ok (show onR (λ_ h=>fIs F okf (fis l) t h) (evFK F okf (fk k) t h) = .ok e t' h' from hx); exact .step (i:=⟨none,k,none⟩) (v:=v) hF hok hf hi0 hr rfl e1 λH1 a=>fIs_ok hF hok (hil (toA v)) (putD_ok hf hi0.dst v) a e2
   | some d =>
    have q:∃ v h2,evFK F okf (fk k) t h = .ok v h2/\fIs F okf (fis l) (putD (fd (some d)) v t) h2 = .ok e t' h':=by
     by_cases hk:∃ x,k = .mv x
     ·obtain ⟨x,rfl⟩:=hk
      cases x with
      | t n=>exact ⟨slot n t,h,rfl,hx⟩
      | c a=>exact ⟨fvA a,h,rfl,hx⟩
     ·have hx:fIs F okf (fi1 (some d) none k (fis l)) t h = .ok e t' h':=hx
      rw [fi1_c λx hxk=>hk ⟨x,hxk⟩] at hx; exact onR_ok (show onR (λv h=>fIs F okf (fis l) (putD (fd (some d)) v t) h) (evFK F okf (fk k) t h) = .ok e t' h' from hx)
    obtain ⟨v,h2,e1,e2⟩:=q; exact .step (i:=⟨some d,k,none⟩) (v:=v) hF hok hf hi0 hr rfl e1 λH1 a=>fIs_ok hF hok (hil (toA v)) (putD_ok hf hi0.dst v) a e2
end
end
noncomputable section
def toE:FE->Exit
 | .nrm=>.normal
 | .ret=>.ret
 | .ext id=>.exit id
section
variable (P:Program) (hint:Nat->Option Md) (nb:Nat)
def ResC (c:AC) (S:List AV) (h:Hp) (H:List ABlk) (e:FE) (t':Fr) (h':Hp):Prop:=
 ∃ pre S' H',HpR h' H'/\Fra pre h h' H H'/\FrR t' S'/\S'.length = S.length/\∀ Q:APost,Q (toE e) S' H'->W P hint nb c S H Q
def WR (x:AC) (Q:APost):Nat->List AV->List ABlk->Prop
 | 0,_,_=>False
 | n + 1,S,H=>W P hint nb x S H (APost.then (WR x Q n) Q)
def RegOk (F:FC') (okf:Nat->Bool):Prop:=
 ∀ ⦃pr:List (List Nat)⦄ ⦃l:List Ins⦄ ⦃lp:Nat⦄ ⦃t:Fr⦄ ⦃S:List AV⦄ ⦃h:Hp⦄ ⦃H:List ABlk⦄ ⦃e:FE⦄ ⦃t':Fr⦄ ⦃h':Hp⦄,
  (∀ i ∈ l,InsIn S.length i)->FrR t S->HpR h H->fA F okf lp (fdreg pr l) t h = .ok e t' h'->ResC P hint nb (.dreg pr l) S h H e t' h'
end
section
variable {P:Program} {hint:Nat->Option Md} {nb:Nat}
theorem W.rounds {x:AC} {Q:APost} {S:List AV} {H:List ABlk} (n:Nat) (h:WR P hint nb x Q n S H):W P hint nb (.loop x) S H Q:=
 W.loop (WR P hint nb x Q) n ⟨S,H,Wk.refl,h⟩ λn s H hn=>by
  cases n with
  | zero=>exact hn.elim
  | succ n =>
   refine W.mono hn λe s H q=>?_
   cases e <;> first | exact ⟨n,Nat.lt_succ_self n,s,H,Wk.refl,q⟩ | exact q
variable {F:FC'} {okf:Nat->Bool} {t:Fr} {S:List AV} {h h':Hp} {H:List ABlk} {v:FV}
theorem onX3_ok {k:FE->Fr->Hp->FX} {r:FX} {e:FE} {t':Fr} (hk:onX3 k r = .ok e t' h'):∃ e1 t1 h1,r = .ok e1 t1 h1/\k e1 t1 h1 = .ok e t' h':=by
 cases r with
 | no=>cases hk
 | ok e1 t1 h1=>exact ⟨e1,t1,h1,rfl,hk⟩
theorem onBX_ok {k:Bool->FX} {x:FV} {e:FE} {t':Fr} (hk:onBX k x = .ok e t' h'):∃ b,x = .b b/\k b = .ok e t' h':=by
 cases x with
 | b u=>exact ⟨u,rfl,hk⟩
 | _=>exact absurd (show FX.no = .ok e t' h' from hk) (by intro q; cases q)
theorem fLoop_ok {x:AC} {f:Fr->Hp->FX} {m:Nat} (hc:∀ {t:Fr} {S:List AV} {h:Hp} {H:List ABlk} {e:FE} {t':Fr} {h':Hp},S.length = m->FrR t S->HpR h H->f t h = .ok e t' h'->ResC P hint nb x S h H e t' h') :
 ∀ (n:Nat) {t:Fr} {S:List AV} {h:Hp} {H:List ABlk} {e:FE} {t':Fr} {h':Hp},S.length = m->FrR t S->HpR h H->fLoop f n t h = .ok e t' h' ->
  ∃ pre S' H',HpR h' H'/\Fra pre h h' H H'/\FrR t' S'/\S'.length = S.length/\∀ Q:APost,Q (toE e) S' H'->∃ k,WR P hint nb x Q k S H
 | 0,t,S,h,H,e,t',h',hm,hf,hr,hx=>by cases (show FX.no = .ok e t' h' from hx)
 | n + 1,t,S,h,H,e,t',h',hm,hf,hr,hx=>by
  obtain ⟨e1,t1,h1,x1,x2⟩:=onX3_ok (show onX3 (λe s h=>FE.rec (motive:=λ_=>FX) (fLoop f n s h) (.ok .ret s h) (λid=>.ok (.ext id) s h) e) (f t h) = .ok e t' h' from hx); obtain ⟨pre,S1,H1,a,b,c,d,w⟩:=hc hm hf hr x1
  cases e1 with
  | nrm =>
   obtain ⟨pre',S2,H2,a',b',c',d',w'⟩:=fLoop_ok hc n (d.trans hm) c a (show fLoop f n t1 h1 = .ok e t' h' from x2); refine ⟨pre' ++ pre,S2,H2,a',b.trans b',c',d'.trans d,λQ hQ=>?_⟩; obtain ⟨k,hk⟩:=w' Q hQ; exact ⟨k + 1,w (APost.then (WR P hint nb x Q k) Q) hk⟩
  | ret =>
   cases (show FX.ok .ret t1 h1 = .ok e t' h' from x2)
   exact ⟨pre,S1,H1,a,b,c,d,λQ hQ=>⟨1,w (APost.then (WR P hint nb x Q 0) Q) hQ⟩⟩
  | ext id =>
   cases (show FX.ok (.ext id) t1 h1 = .ok e t' h' from x2)
   exact ⟨pre,S1,H1,a,b,c,d,λQ hQ=>⟨1,w (APost.then (WR P hint nb x Q 0) Q) hQ⟩⟩
theorem okI_le {n m:Nat} {l:List Ins} (h:l.all (okI n) = true) (hm:n<=m):∀ i ∈ l,InsIn m i:=λi hi =>
 have q:=okI_ok (List.all_eq_true.1 h i hi)
 ⟨λj hj=>Nat.lt_of_lt_of_le (q.sl j hj) hm,λd hd=>Nat.lt_of_lt_of_le (q.dst d hd) hm⟩
theorem fA_ok (hF:FOk P F) (hok:∀ f,okf f = true->callOk P f = true) (hD:RegOk P hint nb F okf) {lp n:Nat}:∀ {c:AC} {t:Fr} {S:List AV} {h:Hp} {H:List ABlk} {e:FE} {t':Fr} {h':Hp},
 okA n c = true->n<=S.length->FrR t S->HpR h H->fA F okf lp (fc c) t h = .ok e t' h'->ResC P hint nb c S h H e t' h'
 | .skip,t,S,h,H,e,t',h',ho,hn,hf,hr,hx=>by
  cases (show FX.ok .nrm t h = .ok e t' h' from hx)
  exact ⟨[],S,H,hr,.refl h H,hf,rfl,λQ hQ=>W.skip hQ⟩
 | .reg l,t,S,h,H,e,t',h',ho,hn,hf,hr,hx=>by
  obtain ⟨rfl,pre,S',H',a,b,c,d,w⟩:=fIs_ok hF hok (okI_le ho hn) hf hr (show fIs F okf (fis l) t h = .ok e t' h' from hx); exact ⟨pre,S',H',a,b,c,d,λQ hQ=>W.reg (w _ hQ)⟩
 | .dreg pr l,t,S,h,H,e,t',h',ho,hn,hf,hr,hx=>hD (okI_le ho hn) hf hr hx
 | .seq x y,t,S,h,H,e,t',h',ho,hn,hf,hr,hx=>by
  obtain ⟨ho1,ho2⟩:=Bool.and_eq_true_iff.1 (show (okA n x && okA n y) = true from ho); obtain ⟨e1,t1,h1,x1,x2⟩:=onX3_ok (show onX3 (λe s h=>FE.rec (motive:=λ_=>FX) (fA F okf lp (fc y) s h) (.ok .ret s h) (λid=>.ok (.ext id) s h) e) (fA F okf lp (fc x) t h) = .ok e t' h' from hx); obtain ⟨pre,S1,H1,a,b,c,d,w⟩:=fA_ok hF hok hD ho1 hn hf hr x1
  cases e1 with
  | nrm =>
   obtain ⟨pre',S2,H2,a',b',c',d',w'⟩:=fA_ok hF hok hD ho2 (by rw [d]; exact hn) c a (show fA F okf lp (fc y) t1 h1 = .ok e t' h' from x2); exact ⟨pre' ++ pre,S2,H2,a',b.trans b',c',d'.trans d,λQ hQ=>W.seq (w (APost.then (λs' H'=>W P hint nb y s' H' Q) Q) (w' Q hQ))⟩
  | ret =>
   cases (show FX.ok .ret t1 h1 = .ok e t' h' from x2)
   exact ⟨pre,S1,H1,a,b,c,d,λQ hQ=>W.seq (w (APost.then (λs' H'=>W P hint nb y s' H' Q) Q) hQ)⟩
  | ext id =>
   cases (show FX.ok (.ext id) t1 h1 = .ok e t' h' from x2)
   exact ⟨pre,S1,H1,a,b,c,d,λQ hQ=>W.seq (w (APost.then (λs' H'=>W P hint nb y s' H' Q) Q) hQ)⟩
 | .cond x y z,t,S,h,H,e,t',h',ho,hn,hf,hr,hx=>by
  obtain ⟨ho12,ho3⟩:=Bool.and_eq_true_iff.1 (show ((x.sl.all (λt=>Nat.blt t n) && okA n y) && okA n z) = true from ho); obtain ⟨ho1,ho2⟩:=Bool.and_eq_true_iff.1 ho12; obtain ⟨b,hb,x1⟩:=onBX_ok (show onBX (λu=>bif' u (fA F okf lp (fc y) t h) (fA F okf lp (fc z) t h)) (gO (fo x) t) = .ok e t' h' from hx); have hg:=gO_ok hf (x:=x) λj hj=>Nat.lt_of_lt_of_le (blt_iff.1 (List.all_eq_true.1 ho1 j hj)) hn
  rw [hb] at hg
  cases b with
  | true =>
   obtain ⟨pre,S',H',a,b,c,d,w⟩:=fA_ok hF hok hD ho2 hn hf hr (show fA F okf lp (fc y) t h = .ok e t' h' from x1); exact ⟨pre,S',H',a,b,c,d,λQ hQ=>W.cond true hg (λ_=>w Q hQ) (λq=>by cases q)⟩
  | false =>
   obtain ⟨pre,S',H',a,b,c,d,w⟩:=fA_ok hF hok hD ho3 hn hf hr (show fA F okf lp (fc z) t h = .ok e t' h' from x1); exact ⟨pre,S',H',a,b,c,d,λQ hQ=>W.cond false hg (λq=>by cases q) (λ_=>w Q hQ)⟩
 | .block id x,t,S,h,H,e,t',h',ho,hn,hf,hr,hx=>by
  obtain ⟨e1,t1,h1,x1,x2⟩:=onX3_ok (show onX3 (λe s h=>FE.rec (motive:=λ_=>FX) (.ok .nrm s h) (.ok .ret s h) (λid'=>bif' (Nat.beq id' id) (.ok .nrm s h) (.ok (.ext id') s h)) e) (fA F okf lp (fc x) t h) = .ok e t' h' from hx); obtain ⟨pre,S1,H1,a,b,c,d,w⟩:=fA_ok hF hok hD (show okA n x = true from ho) hn hf hr x1
  cases e1 with
  | nrm =>
   cases (show FX.ok .nrm t1 h1 = .ok e t' h' from x2)
   exact ⟨pre,S1,H1,a,b,c,d,λQ hQ=>W.block (w (APost.inBlock id Q) hQ)⟩
  | ret =>
   cases (show FX.ok .ret t1 h1 = .ok e t' h' from x2)
   exact ⟨pre,S1,H1,a,b,c,d,λQ hQ=>W.block (w (APost.inBlock id Q) hQ)⟩
  | ext id' =>
   have x2:bif' (Nat.beq id' id) (FX.ok .nrm t1 h1) (.ok (.ext id') t1 h1) = .ok e t' h':=x2
   by_cases hq:id' = id
   ·subst hq
    rw [show Nat.beq id' id' = true from Nat.beq_refl id'] at x2
    cases (show FX.ok .nrm t1 h1 = .ok e t' h' from x2)
    exact ⟨pre,S1,H1,a,b,c,d,λQ hQ=>W.block (w (APost.inBlock id' Q) (by simp only [APost.inBlock,toE,if_true]; exact hQ))⟩
   ·have hb : Nat.beq id' id = false := by
     cases hq2:Nat.beq id' id with
     | true=>exact absurd (Nat.eq_of_beq_eq_true hq2) hq
     | false=>rfl
    rw [hb] at x2
    cases (show FX.ok (.ext id') t1 h1 = .ok e t' h' from x2)
    exact ⟨pre,S1,H1,a,b,c,d,λQ hQ=>W.block (w (APost.inBlock id Q) (by simp only [APost.inBlock,toE,if_neg hq]; exact hQ))⟩
 | .loop x,t,S,h,H,e,t',h',ho,hn,hf,hr,hx=>by
  obtain ⟨pre,S',H',a,b,c,d,w⟩:=fLoop_ok (P:=P) (hint:=hint) (nb:=nb) (x:=x) (f:=fA F okf lp (fc x)) (m:=S.length)
   (λhm hf hr hx=>fA_ok hF hok hD (show okA n x = true from ho) (by rw [hm]; exact hn) hf hr hx) lp rfl hf hr hx
  exact ⟨pre,S',H',a,b,c,d,λQ hQ=>by obtain ⟨k,hk⟩:=w Q hQ; exact W.rounds k hk⟩
 | .exit id,t,S,h,H,e,t',h',ho,hn,hf,hr,hx=>by
  cases (show FX.ok (.ext id) t h = .ok e t' h' from hx)
  exact ⟨[],S,H,hr,.refl h H,hf,rfl,λQ hQ=>W.exit hQ⟩
 | .ret,t,S,h,H,e,t',h',ho,hn,hf,hr,hx=>by
  cases (show FX.ok .ret t h = .ok e t' h' from hx)
  exact ⟨[],S,H,hr,.refl h H,hf,rfl,λQ hQ=>W.ret hQ⟩
 | .stuck,t,S,h,H,e,t',h',ho,hn,hf,hr,hx=>by cases (show FX.no = .ok e t' h' from hx)
end
end
end Go.Proofs.YtofpekbidngnfaaGreatDoor
