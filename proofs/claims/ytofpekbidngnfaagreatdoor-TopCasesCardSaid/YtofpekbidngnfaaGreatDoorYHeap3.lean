/-
  One's own library, part 1: abstract values, the abstract heap, and how they stand to the model's values and worlds.
  No program is named here.
-/
import Derived.WalkKit
import Derived.Maps.AppendAt
import Derived.Deep.Draws
import Derived.Lib.LaidTab
import Derived.Lib.ItoaNum
import Derived.Lib.Space
import Derived.Lib.TrailingZeros
import Derived.Deep.AppendSrc
set_option linter.unusedSectionVars false
set_option linter.unusedSimpArgs false
set_option linter.unusedVariables false
namespace Go.Proofs.YtofpekbidngnfaaGreatDoor
open Go.RowKit
theorem apS:(∀ {α:Type} (a b c:List α),a ++ b ++ c = a ++ (b ++ c))/\(∀ {α:Type} (a:α) (l m:List α),(a :: l) ++ m = a :: (l ++ m))/\(∀ {α:Type} (l:List α),[] ++ l = l):=⟨λa b c=>List.append_assoc a b c,λ_ _ _=>List.cons_append,λl=>List.nil_append l⟩
theorem tkS:(∀ {α:Type} (n:Nat) (a:α) (l:List α),(a :: l).take (n + 1) = a :: l.take n)/\(∀ {α:Type} (l:List α),l.take 0 = []):=⟨λn a l=>List.take_succ_cons,λl=>List.take_zero⟩
theorem gEe {α:Type} {l:List α} {i:Nat} (h:i < l.length):l[i]? = some l[i]:=List.getElem?_eq_getElem h
theorem gDd {α:Type} {l:List α} {i:Nat} {d:α}:l.getD i d = l[i]?.getD d:=List.getD_eq_getElem?_getD
theorem lnn {α β:Type} {l:List α} {f:α->β}:(l.map f).length = l.length:=List.length_map ..
abbrev Mem:=Addr->Option Value
def plainV:Value->Bool
 | .bool _ | .int _ _ | .float _ _ | .complex _ _ _ | .string _ | .nilFunc | .nilIface=>true
 | _=>false
inductive Dat where
 | v (x:Value)
 | sl (es:List (List Dat))
 deriving Inhabited
inductive VD (M:Mem):Dat->Value->Prop
 | v {x:Value}:plainV x = true->VD M (.v x) x
 | nil {a:Option Addr} {cap:Nat}:VD M (.sl []) (.slice a 0 cap)
 | sl {es:List (List Dat)} {a:Addr} {cap sz:Nat} (u:Nat->Nat->Value):es ≠ []->es.length<=cap->cap<=maxLen->(∀ e ∈ es,e.length = sz) ->
  (∀ (i:Nat) (e:List Dat) (j:Nat) (d:Dat),es[i]? = some e->e[j]? = some d->M (a.add (i * sz + j)) = some (u i j)) ->
  (∀ (i:Nat) (e:List Dat) (j:Nat) (d:Dat),es[i]? = some e->e[j]? = some d->VD M d (u i j))->VD M (.sl es) (.slice (some a) es.length cap)
inductive AV where
 | any
 | ub
 | d (x:Dat)
 | agg (cs:List AV)
 | tup (cs:List AV)
 | nilp
 | mnil
 | ptr (b off:Nat)
 | ip (cs:List Dat)
 | esl
 | gsl (b sz:Nat) (es:List (List Dat))
 | hsl (b off n cap sz:Nat)
 | mp (b:Nat)
 | fn (f:FuncId) (caps:List AV)
 | fnb (f:FuncId) (first:List AV)
 | ifc (t:TypeId) (v:AV)
 deriving Inhabited
structure Sg where
 M:Mem
 φ:Nat->Nat->Option Value
 D:List Deferred:=[]
structure Sg.le0 (σ σ':Sg):Prop where
 M:∀ a v,σ.M a = some v->σ'.M a = some v
 φ:∀ b n v,σ.φ b n = some v->σ'.φ b n = some v
structure Sg.le (σ σ':Sg):Prop where
 M:∀ a v,σ.M a = some v->σ'.M a = some v
 φ:∀ b n v,σ.φ b n = some v->σ'.φ b n = some v
 D:σ'.D = σ.D
theorem Sg.le.refl (σ:Sg):σ.le σ:=⟨λ_ _ h=>h,λ_ _ _ h=>h,rfl⟩
theorem Sg.le.trans {a b c:Sg} (h:a.le b) (k:b.le c):a.le c:=⟨λ_ _ x=>k.M _ _ (h.M _ _ x),λ_ _ _ x=>k.φ _ _ _ (h.φ _ _ _ x),k.D.trans h.D⟩
inductive VR (σ:Sg):AV->Value->Prop
 | any {u:Value}:VR σ .any u
 | ub {t:Bool}:VR σ .ub (.bool t)
 | d {x:Dat} {u:Value}:VD σ.M x u->VR σ (.d x) u
 | nilp:VR σ .nilp (.pointer none)
 | mnil:VR σ .mnil (.map none)
 | ptr {b g off:Nat}:σ.φ b 0 = some (.pointer (some ⟨g,0,none⟩))->VR σ (.ptr b off) (.pointer (some ⟨g,off,none⟩))
 | ip {cs:List Dat} {a:Addr} (u:Nat->Value):(∀ (j:Nat) (d:Dat),cs[j]? = some d->σ.M (a.add j) = some (u j))->(∀ (j:Nat) (d:Dat),cs[j]? = some d->VD σ.M d (u j))->VR σ (.ip cs) (.pointer (some a))
 | esl {a:Option Addr}:VR σ .esl (.slice a 0 0)
 | gsl {b sz:Nat} {es:List (List Dat)} {u:Value}:σ.φ b es.length = some u->(∀ e ∈ es,e.length = sz)->VD σ.M (.sl es) u->VR σ (.gsl b sz es) u
 | hsl {b g off n cap cap' sz N:Nat}:σ.φ b 0 = some (.pointer (some ⟨g,0,none⟩))->σ.φ b 1 = some (.int .i64 N)->off + cap' * sz<=N->n<=cap->cap<=cap'->cap'<=maxLen->VR σ (.hsl b off n cap sz) (.slice (some ⟨g,off,none⟩) n cap')
 | hsl0 {b off sz:Nat} {a:Option Addr} {v:Value}:σ.φ b 0 = some v->VR σ (.hsl b off 0 0 sz) (.slice a 0 0)
 | mp {b g:Nat}:σ.φ b 0 = some (.map (some g))->VR σ (.mp b) (.map (some g))
 | fn {f:FuncId} {caps:List AV} {us:List Value}:caps.length = us.length->(∀ (i:Nat) (c:AV) (u:Value),caps[i]? = some c->us[i]? = some u->VR σ c u)->VR σ (.fn f caps) (.func (.func f) #[] us.toArray)
 | fnb {f:FuncId} {caps:List AV} {us:List Value}:caps.length = us.length->(∀ (i:Nat) (c:AV) (u:Value),caps[i]? = some c->us[i]? = some u->VR σ c u)->VR σ (.fnb f caps) (.func (.func f) us.toArray #[])
 | ifc {t:TypeId} {v:AV} {u:Value}:VR σ v u->VR σ (.ifc t v) (.iface t u)
 | agg {cs:List AV} {us:List Value}:cs.length = us.length->(∀ (i:Nat) (c:AV) (u:Value),cs[i]? = some c->us[i]? = some u->VR σ c u)->VR σ (.agg cs) (.agg us.toArray)
 | tup {cs:List AV} {us:List Value}:cs.length = us.length->(∀ (i:Nat) (c:AV) (u:Value),cs[i]? = some c->us[i]? = some u->VR σ c u)->VR σ (.tup cs) (.tuple us.toArray)
theorem VD.mono {M M':Mem} (h:∀ a v,M a = some v->M' a = some v) {x:Dat} {u:Value} (hv:VD M x u):VD M' x u:=by
 induction hv with
 | v hp=>exact .v hp
 | nil=>exact .nil
 | sl u h1 h2 hm h3 h4 _ ih=>exact .sl u h1 h2 hm h3 (λi e j d he hd=>h _ _ (h4 i e j d he hd)) ih
theorem Sg.le.l0 {σ σ':Sg} (h:σ.le σ'):σ.le0 σ':=⟨h.M,h.φ⟩
theorem VR.mono0 {σ σ':Sg} (h:σ.le0 σ') {x:AV} {u:Value} (hv:VR σ x u):VR σ' x u:=by
 induction hv with
 | any=>exact .any
 | ub=>exact .ub
 | d hd=>exact .d (hd.mono h.M)
 | nilp=>exact .nilp
 | mnil=>exact .mnil
 | ptr hφ=>exact .ptr (h.φ _ _ _ hφ)
 | ip u h1 h2=>exact .ip u (λj d hj=>h.M _ _ (h1 j d hj)) (λj d hj=>(h2 j d hj).mono h.M)
 | esl=>exact .esl
 | gsl hφ hz hd=>exact .gsl (h.φ _ _ _ hφ) hz (hd.mono h.M)
 | hsl hφ hN ho hn hc hm=>exact .hsl (h.φ _ _ _ hφ) (h.φ _ _ _ hN) ho hn hc hm
 | hsl0 hφ=>exact .hsl0 (h.φ _ _ _ hφ)
 | mp hφ=>exact .mp (h.φ _ _ _ hφ)
 | fn hl _ ih=>exact .fn hl ih
 | fnb hl _ ih=>exact .fnb hl ih
 | ifc _ ih=>exact .ifc ih
 | agg hl _ ih=>exact .agg hl ih
 | tup hl _ ih=>exact .tup hl ih
theorem VR.mono {σ σ':Sg} (h:σ.le σ') {x:AV} {u:Value} (hv:VR σ x u):VR σ' x u:=hv.mono0 h.l0
def VRs (σ:Sg) (cs:List AV) (us:List Value):Prop:=cs.length = us.length/\∀ (i:Nat) (c:AV) (u:Value),cs[i]? = some c->us[i]? = some u->VR σ c u
theorem VRs.mono0 {σ σ':Sg} (h:σ.le0 σ') {cs:List AV} {us:List Value} (hv:VRs σ cs us):VRs σ' cs us:=
 ⟨hv.1,λi c u h1 h2=>(hv.2 i c u h1 h2).mono0 h⟩
theorem VRs.mono {σ σ':Sg} (h:σ.le σ') {cs:List AV} {us:List Value} (hv:VRs σ cs us):VRs σ' cs us:=
 ⟨hv.1,λi c u h1 h2=>(hv.2 i c u h1 h2).mono h⟩
theorem VRs.nil {σ:Sg}:VRs σ [] []:=⟨rfl,λi c u h=>by simp at h⟩
theorem VRs.cons {σ:Sg} {c:AV} {u:Value} {cs:List AV} {us:List Value} (h:VR σ c u) (hs:VRs σ cs us):VRs σ (c :: cs) (u :: us):=by
 refine ⟨by simp [hs.1],λi c' u' h1 h2=>?_⟩
 cases i with
 | zero=>simp at h1 h2; subst h1; subst h2; exact h
 | succ i=>simp at h1 h2; exact hs.2 i c' u' h1 h2
theorem VRs.cons_inv {σ:Sg} {c:AV} {cs:List AV} {us:List Value} (h:VRs σ (c :: cs) us):∃ u us',us = u :: us'/\VR σ c u/\VRs σ cs us':=by
 match us,h with
 | [],h=>exact absurd h.1 (by simp)
 | u :: us',h =>
  exact ⟨u,us',rfl,h.2 0 c u rfl rfl,by simpa using h.1,λi c' u' h1 h2=>h.2 (i + 1) c' u' (by simpa using h1) (by simpa using h2)⟩
theorem VRs.append {σ:Sg} {cs ds:List AV} {us vs:List Value} (h:VRs σ cs us) (k:VRs σ ds vs):VRs σ (cs ++ ds) (us ++ vs):=by
 refine ⟨by simp [h.1,k.1],λi c u h1 h2=>?_⟩; rw [List.getElem?_append] at h1 h2
 by_cases hi:i < cs.length
 ·rw [if_pos hi] at h1
  rw [if_pos (by rw [<- h.1]; exact hi)] at h2; exact h.2 i c u h1 h2
 ·rw [if_neg hi] at h1
  rw [if_neg (by rw [<- h.1]; exact hi)] at h2; rw [<- h.1] at h2; exact k.2 _ c u h1 h2
theorem VRs.pre {σ:Sg} {cs:List AV} {us:List Value} (h:VRs σ cs us):VRs σ cs (us.take cs.length):=by rw [h.1,List.take_length]; exact h
theorem VRs.take {σ:Sg} {cs:List AV} {us:List Value} (h:VRs σ cs us) (n:Nat):VRs σ (cs.take n) (us.take n):=by
 refine ⟨by simp [h.1],λi c u h1 h2=>?_⟩; rw [List.getElem?_take] at h1 h2
 split at h1
 ·rename_i hi; rw [if_pos hi] at h2; exact h.2 i c u h1 h2
 ·simp at h1
theorem VRs.drop {σ:Sg} {cs:List AV} {us:List Value} (h:VRs σ cs us) (n:Nat):VRs σ (cs.drop n) (us.drop n):=by
 refine ⟨by simp [h.1],λi c u h1 h2=>?_⟩; rw [List.getElem?_drop] at h1 h2; exact h.2 _ c u h1 h2
theorem VRs.set {σ:Sg} {cs:List AV} {us:List Value} (h:VRs σ cs us) (n:Nat) {c:AV} {u:Value} (hc:VR σ c u):VRs σ (cs.set n c) (us.set n u):=by
 refine ⟨by simp [h.1],λi c' u' h1 h2=>?_⟩; rw [List.getElem?_set] at h1 h2
 by_cases hn:n = i
 ·subst hn
  have hlt:n < cs.length:=by
   by_cases hlt:n < cs.length
   ·exact hlt
   ·simp [hlt] at h1
  have hlt':n < us.length:=by rw [<- h.1]; exact hlt
  simp only [if_true,hlt] at h1; simp only [if_true,hlt'] at h2
  cases h1; cases h2; exact hc
 ·rw [if_neg hn] at h1 h2
  exact h.2 i c' u' h1 h2
theorem VRs.getD {σ:Sg} {cs:List AV} {us:List Value} (h:VRs σ cs us) (n:Nat) (d:Value):VR σ (cs.getD n .any) (us.getD n d):=by
 by_cases hn:n < cs.length
 ·have hn':n < us.length:=by rw [<- h.1]; exact hn
  simp only [List.getD_eq_getElem?_getD]; exact h.2 n _ _ (by simp [List.getElem?_eq_getElem hn]) (by simp [List.getElem?_eq_getElem hn'])
 ·simp only [List.getD_eq_getElem?_getD,List.getElem?_eq_none (Nat.le_of_not_lt hn),Option.getD_none]
  exact .any
theorem VRs.replicate {σ:Sg} (n:Nat) (us:List Value) (h:us.length = n):VRs σ (List.replicate n .any) us:=by
 refine ⟨by simp [h],λi c u h1 _=>?_⟩; rw [List.getElem?_replicate] at h1
 split at h1
 ·cases h1; exact .any
 ·cases h1
inductive KC where
 | b | s
 | i (k:IntKind)
 deriving DecidableEq,Inhabited
structure KT where
 ag:Bool
 kk:List KC
 deriving DecidableEq,Inhabited
def kcFit:KC->Value->Bool
 | .b,.bool _=>true
 | .s,.string s=>decide (s.size<=maxLen)
 | .i k,.int k' n=>k' == k && (decide (k.min<=n) && decide (n<=k.max))
 | _,_=>false
def fitL:List KC->List Value->Bool
 | [],[]=>true
 | k :: ks,v :: vs=>kcFit k v && fitL ks vs
 | _,_=>false
def keyFits:KT->Value->Bool
 | ⟨true,kk⟩,.agg cs=>fitL kk cs.toList
 | ⟨false,[k]⟩,v=>kcFit k v
 | _,_=>false
inductive ABlk where
 | free
 | dead
 | cells (cs:List AV)
 | row (e sz n:Nat)
 | map (kt:KT) (ck:Nat) (es:List (Value × AV × Nat))
 | bld (t:TypeId)
 | iter (m since:Nat) (seen:List Nat) (last:Nat)
 deriving Inhabited
def ABlk.live:ABlk->Bool
 | .free | .dead=>false
 | _=>true
def ABlk.ver:ABlk->Nat
 | .row _ _ n=>n
 | _=>0
def conc:Value->Option Nat
 | .pointer (some a)=>some a.block
 | .slice (some a) _ cap=>if cap = 0 then none else some a.block
 | .map (some g)=>some g
 | _=>none
def RowAt (w:World) (e sz:Nat) (v:Value) (n:Nat) (xs:List Value):Prop:=
 (n = 0/\xs = []/\∃ a,v = .slice a 0 0) \/
 ∃ g cap cur,0 < cap/\v = .slice (some ⟨g,0,none⟩) n cap/\w.heap[g]? = some (.cells cur e (0,0))/\n<=cap/\cap<=maxLen/\cur.size = cap * sz/\cur.toList.take (n * sz) = xs
def CellsAt (σ:Sg) (w:World) (b:Nat) (cs:List AV):Prop:=
 ∃ g vs t,σ.φ b 0 = some (.pointer (some ⟨g,0,none⟩))/\σ.φ b 1 = some (.int .i64 vs.size)/\w.heap[g]? = some (.cells vs t (0,0))/\VRs σ cs (vs.toList.take cs.length)/\∀ a:Addr,a.block = g->σ.M a = none
def BldAt (σ:Sg) (w:World) (b:Nat) (t:TypeId):Prop:=
 ∃ g,σ.φ b 0 = some (.pointer (some ⟨g,0,none⟩))/\σ.φ b 1 = some (.int .i64 2)/\w.heap[g]? = some (.cells #[.pointer none,.slice none 0 0] t (0,0))/\∀ a:Addr,a.block = g->σ.M a = none
def BR (σ:Sg) (w:World) (b:Nat):ABlk->Prop
 | .free=>∀ n,σ.φ b n = none
 | .dead=>True
 | .cells cs=>CellsAt σ w b cs\/(cs = []/\∃ v,σ.φ b 0 = some v/\conc v = none)
 | .row e sz n=>∃ v xs,σ.φ b n = some v/\RowAt w e sz v n xs/\(∀ m,n < m->σ.φ b m = none) /\
  ∀ g,conc v = some g->(∀ j u,xs[j]? = some u->σ.M ⟨g,j,none⟩ = some u)/\∀ a:Addr,a.block = g->n * sz<=a.off->σ.M a = none
 | .map kt ck es=>∃ g ms,σ.φ b 0 = some (.map (some g))/\w.heap[g]? = some (.map ms ck)/\VRs σ (es.map (·.2.1)) (ms.toList.map (·.val))/\ms.toList.map (·.key) = es.map (·.1) /\
  ms.toList.map (·.born) = es.map (·.2.2)/\(∀ e ∈ es,keyFits kt e.1 = true)/\(es.map (·.1)).Nodup
 | .bld t=>BldAt σ w b t
 | .iter m since seen last=>∃ g gm,σ.φ b 0 = some (.pointer (some ⟨g,0,none⟩))/\σ.φ m 0 = some (.map (some gm))/\w.heap[g]? = some (.mapIter (some gm) since seen.toArray last)
def glTabs:List (Nat × IntKind × List Int):=[(0,.u8,Lib.asciiSpaceTab),(5,.u64,Lib.pow10Tab),(8,.u8,Lib.deBruijn64tab.map Int.ofNat)]
def GlM (M:Mem):Prop:=True/\∀ t ∈ glTabs,∀ (i:Nat) (x:Int),t.2.2[i]? = some x->M ⟨t.1,i,none⟩ = some (.int t.2.1 x)
theorem GlM.mono {M M':Mem} (h:GlM M) (hm:∀ a v,M a = some v->M' a = some v):GlM M':=
 ⟨trivial,λt ht i x hx=>hm _ _ (h.2 t ht i x hx)⟩
def SzOk (w:World):Prop:=∀ t ∈ glTabs,∃ c e f,w.heap[t.1]? = some (.cells c e f)/\c.size = t.2.2.length
theorem SzOk.to {w w':World} (h:SzOk w) (k:∀ t ∈ glTabs,∀ c e f,w.heap[t.1]? = some (.cells c e f)->∃ c' e' f',w'.heap[t.1]? = some (.cells c' e' f')/\c'.size = c.size):SzOk w':=λt ht=>by
 obtain ⟨c,e,f,h1,h2⟩:=h t ht; obtain ⟨c',e',f',h3,h4⟩:=k t ht c e f h1; exact ⟨c',e',f',h3,h4.trans h2⟩
structure MemOk (M:Mem) (w:World):Prop where
 cell:∀ a v,M a = some v->w.cell? a = some v
 gl:GlM M
 sz:SzOk w
instance {M:Mem} {w:World}:CoeFun (MemOk M w) (λ_=>∀ a v,M a = some v->w.cell? a = some v):=⟨MemOk.cell⟩
theorem GlM.ne {M:Mem} (h:GlM M) {t:Nat × IntKind × List Int} (ht:t ∈ glTabs):∃ v,M ⟨t.1,0,none⟩ = some v:=by
 have h2:=h.2 t ht 0; simp only [glTabs,List.mem_cons,List.not_mem_nil,or_false] at ht; rcases ht with rfl | rfl | rfl
 ·exact ⟨_,h2 _ rfl⟩
 ·exact ⟨_,h2 _ rfl⟩
 ·exact ⟨_,h2 _ rfl⟩
structure HR (σ:Sg) (H:List ABlk) (w:World):Prop where
 mem:MemOk σ.M w
 blk:∀ b k,H[b]? = some k->BR σ w b k
 fresh:∀ b n,H.length<=b->σ.φ b n = none
 inj:∀ b b' k k' v v' g,H[b]? = some k->H[b']? = some k'->k.live = true->k'.live = true->σ.φ b k.ver = some v->σ.φ b' k'.ver = some v'->conc v = some g->conc v' = some g->b = b'
theorem HR.cellsAt {σ:Sg} {H:List ABlk} {w:World} (h:HR σ H w) {b g:Nat} {cs:List AV} (hb:H[b]? = some (.cells cs)) (hφ:σ.φ b 0 = some (.pointer (some ⟨g,0,none⟩))) :
 ∃ vs t,σ.φ b 1 = some (.int .i64 vs.size)/\w.heap[g]? = some (.cells vs t (0,0))/\VRs σ cs (vs.toList.take cs.length)/\∀ a:Addr,a.block = g->σ.M a = none:=by
 rcases h.blk b _ hb with ⟨g',vs,t,h1,h2,h3,h4,h5⟩ | ⟨_,v,h1,h2⟩
 ·rw [h1] at hφ; cases hφ
  exact ⟨vs,t,h2,h3,h4,h5⟩
 ·rw [h1] at hφ; cases hφ; simp [conc] at h2
def foot (σ:Sg) (H:List ABlk) (k:Nat):Prop:=∃ b blk v,H[b]? = some blk/\blk.live = true/\σ.φ b blk.ver = some v/\conc v = some k
structure Ext (σ:Sg) (H:List ABlk) (w:World) (σ':Sg) (H':List ABlk) (w':World):Prop where
 le:σ.le σ'
 os:w'.os = w.os
 tape:w'.tape = w.tape
 output:w'.output = w.output
 size:w.heap.size<=w'.heap.size
 frame:∀ k,k < w.heap.size->¬ foot σ H k->w'.heap[k]? = w.heap[k]?
 foot:∀ k,foot σ' H' k->foot σ H k\/w.heap.size<=k
 new:∀ a,σ'.M a ≠ σ.M a->Go.Proofs.YtofpekbidngnfaaGreatDoor.foot σ H a.block\/w.heap.size<=a.block
 dead:∀ b:Nat,H[b]? = some .dead->H'[b]? = some .dead/\∀ n,σ'.φ b n = σ.φ b n
theorem Ext.refl (σ:Sg) (H:List ABlk) (w:World):Ext σ H w σ H w:=
 ⟨.refl σ,rfl,rfl,rfl,Nat.le_refl _,λ_ _ _=>rfl,λ_ h=>.inl h,λ_ h=>absurd rfl h,λ_ h=>⟨h,λ_=>rfl⟩⟩
theorem Ext.trans {σ σ' σ'':Sg} {H H' H'':List ABlk} {w w' w'':World} (h:Ext σ H w σ' H' w') (k:Ext σ' H' w' σ'' H'' w''):Ext σ H w σ'' H'' w'':=by
 refine ⟨h.le.trans k.le,k.os.trans h.os,k.tape.trans h.tape,k.output.trans h.output,Nat.le_trans h.size k.size,λi hi hf=>?_,λi hi=>?_,λa ha=>?_,λb hb=>?_⟩
 ·rw [k.frame i (Nat.lt_of_lt_of_le hi h.size) (λhf'=>?_),h.frame i hi hf]
  rcases h.foot i hf' with h1 | h1
  ·exact hf h1
  ·omega
 ·rcases k.foot i hi with h1 | h1
  ·exact h.foot i h1
  ·exact .inr (Nat.le_trans h.size h1)
 ·by_cases e:σ''.M a = σ'.M a
  ·exact h.new a (by rw [<- e]; exact ha)
  ·rcases k.new a e with h1 | h1
   ·exact h.foot _ h1
   ·exact .inr (Nat.le_trans h.size h1)
 ·obtain ⟨h1,h2⟩:=h.dead b hb
  obtain ⟨h3,h4⟩:=k.dead b h1; exact ⟨h3,λn=>(h4 n).trans (h2 n)⟩
theorem addr_lit (g o i:Nat):(⟨g,o,none⟩:Addr).add i = ⟨g,o + i,none⟩:=by unfold Addr.add; split <;> simp_all
theorem HR.drew {σ:Sg} {H:List ABlk} {w:World} (h:HR σ H w):HR σ H w.drew:=
 ⟨⟨h.mem.cell, h.mem.gl, h.mem.sz⟩, fun b k hb => by
   have:=h.blk b k hb
   cases k <;> exact this,h.fresh,h.inj⟩
theorem Ext.drew (σ:Sg) (H:List ABlk) (w:World):Ext σ H w σ H w.drew:=
 ⟨.refl σ,rfl,rfl,rfl,Nat.le_refl _,λ_ _ _=>rfl,λ_ h=>.inl h,λ_ h=>absurd rfl h,λ_ h=>⟨h,λ_=>rfl⟩⟩
structure SS (σ:Sg) (s:List AV) (a:Act):Prop where
 defers:a.defers = σ.D
 tmps:VRs σ s a.tmps.toList
theorem SS.mono {σ σ':Sg} (h:σ.le σ') {s:List AV} {a:Act} (hs:SS σ s a):SS σ' s a:=⟨hs.defers.trans h.D.symm,hs.tmps.mono h⟩
@[go_sem] def setO (s:List AV) (dst:Option Nat) (x:AV):List AV:=
 match dst with
 | some d=>s.set d x
 | none=>s
theorem SS.put {σ:Sg} {s:List AV} {a:Act} (hs:SS σ s a) (dst:Option Nat) {x:AV} {v:Value} (h:VR σ x v):SS σ (setO s dst x) (a.put dst v):=by
 cases dst with
 | none=>exact hs
 | some d =>
  refine ⟨hs.defers,?_⟩; have:=hs.tmps.set d h
  simpa [Act.put,setO] using this
inductive Opd where
 | t (n:Nat)
 | c (x:AV)
 deriving Inhabited
@[go_sem] def get (s:List AV):Opd->AV
 | .t n=>s.getD n .any
 | .c x=>x
def cst1:Value->Option AV
 | .slice none 0 0=>some .esl
 | .pointer none=>some .nilp
 | .map none=>some .mnil
 | v=>if plainV v then some (.d (.v v)) else none
def cst:Value->Option AV
 | .agg cs=>(cs.toList.mapM cst1).map .agg
 | v=>cst1 v
def opd:Operand->Option Opd
 | .tmp t=>some (.t t)
 | .const v=>(cst v).map .c
 | .func f=>some (.c (.fn f []))
 | .global _=>none
inductive Md where
 | im | hp | gr
 deriving DecidableEq,Inhabited
inductive K where
 | mv (x:Opd)
 | mvg (e sz:Nat) (x:Opd)
 | pick (c a b:Opd)
 | al (z:List AV)
 | alb (t:TypeId)
 | bx (x:Opd)
 | bd (z:List AV) (parts:List (Nat × Nat × Opd))
 | bs (md:Md) (e sz:Nat) (parts:List Opd)
 | ld (x:Opd) (n:Nat) (ag:Bool)
 | st (x v:Opd) (n:Nat)
 | nc (x:Opd)
 | bin (op:BinOp) (x y:Opd)
 | un (op:UnOp) (x:Opd)
 | cvi (k:IntKind) (x:Opd)
 | fa (x:Opd) (off:Nat)
 | fld (x:Opd) (off n:Nat) (ag:Bool)
 | ia (x i:Opd) (sz:Nat)
 | iar (x i:Opd) (n sz:Nat)
 | ix (x i:Opd)
 | ixv (x i:Opd) (n:Nat)
 | sli (str:Bool) (x:Opd) (lo hi:Option Opd) (sz:Nat)
 | sla (x:Opd) (lo hi:Option Opd) (n sz:Nat)
 | slz (x:Opd)
 | ext (x:Opd) (i:Nat)
 | call (f:FuncId) (args:List Opd)
 | callv (g:Opd) (args:List Opd)
 | len (str:Bool) (x:Opd)
 | app (md:Md) (e sz bytes:Nat) (s x:Opd)
 | mn (xs:List Opd)
 | mx (xs:List Opd)
 | mkf (f:FuncId) (caps:List Opd)
 | mks (md:Md) (e sz bytes:Nat) (z:List AV) (n c:Opd)
 | cpy (sz:Nat) (d x:Opd)
 | mkm (kt:KT)
 | lk (kt:KT) (z:AV) (m k:Opd) (ok:Bool)
 | mu (kt:KT) (m k v:Opd)
 | me (kt:KT) (z:AV) (m k:Opd)
 | mes (m st v:Opd)
 | del (kt:KT) (m k:Opd)
 | ixb (f:FuncId) (x c:Opd)
 | eqg (kt:KT) (neg:Bool) (x y:Opd)
 | isn (mp neg:Bool) (x:Opd)
 | s2b (md:Md) (e:Nat) (x:Opd)
 | b2s (x:Opd)
 | eqs (neg:Bool) (x y:Opd)
 | eqp (neg:Bool) (x y:Opd)
 | eqi (neg:Bool) (x:Opd)
 | mki (t:TypeId) (x:Opd)
 | tas (t:TypeId) (z:AV) (x:Opd) (ok:Bool)
 | inv (tb:List (TypeId × FuncId)) (x:Opd) (args:List Opd)
 | mkb (f:FuncId) (first:List Opd)
 | mlen (x:Opd)
 | rng (x:Opd)
 | nxt (x:Opd)
 | ent (x:Opd)
 deriving Inhabited
structure Ins where
 dst:Option Nat
 k:K
 g:Option (Nat × Bool):=none
 deriving Inhabited
inductive AC where
 | skip
 | reg (l:List Ins)
 | dreg (pr:List (List Nat)) (l:List Ins)
 | seq (a b:AC)
 | cond (x:Opd) (a b:AC)
 | block (id:Nat) (c:AC)
 | loop (c:AC)
 | exit (id:Nat)
 | ret
 | stuck
 deriving Inhabited
def shown:AV->Bool
 | .any | .tup _=>false
 | _=>true
@[go_sem] def one:AV->Bool
 | .any | .tup _ | .agg _=>false
 | _=>true
def cellsAV:AV->List AV
 | .agg cs=>cs
 | x=>[x]
@[go_sem] def toDat:AV->Option Dat
 | .d x=>some x
 | .esl=>some (.sl [])
 | .gsl _ _ es=>some (.sl es)
 | _=>none
@[go_sem] def toDats:List AV->Option (List Dat)
 | []=>some []
 | x :: xs=>match toDat x,toDats xs with
  | some d,some ds=>some (d :: ds)
  | _,_=>none
@[go_sem] def splice (cs:List AV) (off:Nat) (vs:List AV):List AV:=cs.take off ++ vs ++ cs.drop (off + vs.length)
@[go_sem] def fillA (z:List AV):List (Nat × Nat × AV)->Option (List AV)
 | []=>some z
 | (off,n,v) :: r=>if shown v && (cellsAV v).length == n && decide (off + n<=z.length) then fillA (splice z off (cellsAV v)) r else none
@[go_sem] def loadA (H:List ABlk) (x:AV) (n:Nat):Option (List AV):=
 match x with
 | .ptr b off=>match H[b]? with
  | some (.cells cs)=>if off + n<=cs.length then some ((cs.drop off).take n) else none
  | _=>none
 | .ip cs=>if n<=cs.length then some ((cs.take n).map .d) else none
 | _=>none
@[go_sem] def storeA (H:List ABlk) (x:AV) (vs:List AV):Option (List ABlk):=
 match x with
 | .ptr b off=>match H[b]? with
  | some (.cells cs)=>if off + vs.length<=cs.length/\vs.all one = true then some (H.set b (.cells (splice cs off vs))) else none
  | _=>none
 | _=>none
@[go_sem] def outA (ag:Bool) (cs:List AV):Option AV:=
 if ag then some (.agg cs) else match cs with
  | [c]=>some c
  | _=>none
@[go_sem] def binA (op:BinOp) (x y:AV):Option AV:=
 match x,y with
 | .d (.v (.int k a)),.d (.v (.int k' b)) =>
  match op with
  | .shl=>if b < 0 then none else some (.d (.v (.int k (k.wrap (a * 2 ^ (min b.toNat k.bits))))))
  | .shr=>if b < 0 then none else some (.d (.v (.int k (a / (2 ^ (min b.toNat k.bits))))))
  | _=>if k = k' then
   match op with
   | .add=>some (.d (.v (.int k (k.wrap (a + b)))))
   | .sub=>some (.d (.v (.int k (k.wrap (a - b)))))
   | .mul=>some (.d (.v (.int k (k.wrap (a * b)))))
   | .quo=>if b = 0 then none else some (.d (.v (.int k (k.wrap (a.tdiv b)))))
   | .rem=>if b = 0 then none else some (.d (.v (.int k (a.tmod b))))
   | .and=>some (.d (.v (.int k (k.wrap (BitVec.ofInt k.bits a &&& BitVec.ofInt k.bits b).toNat))))
   | .or=>some (.d (.v (.int k (k.wrap (BitVec.ofInt k.bits a ||| BitVec.ofInt k.bits b).toNat))))
   | .xor=>some (.d (.v (.int k (k.wrap (BitVec.ofInt k.bits a ^^^ BitVec.ofInt k.bits b).toNat))))
   | .andNot=>some (.d (.v (.int k (k.wrap (BitVec.ofInt k.bits a &&& ~~~ BitVec.ofInt k.bits b).toNat))))
   | .eql=>some (.d (.v (.bool (a == b))))
   | .neq=>some (.d (.v (.bool (a != b))))
   | .lss=>some (.d (.v (.bool (decide (a < b)))))
   | .leq=>some (.d (.v (.bool (decide (a<=b)))))
   | .gtr=>some (.d (.v (.bool (decide (a > b)))))
   | .geq=>some (.d (.v (.bool (decide (a ≥ b)))))
   | _=>none
   else none
 | .d (.v (.string a)),.d (.v (.string b)) =>
  match op with
  | .eql=>some (.d (.v (.bool (decide (a = b)))))
  | .neq=>some (.d (.v (.bool !(decide (a = b)))))
  | .add=>if ((a.size + b.size:Nat):Int) > IntKind.i64.max then none else some (.d (.v (.string (a ++ b))))
  | _=>none
 | _,_=>none
@[go_sem] def ptrsA (neg:Bool) (x y:AV):Option AV:=
 match x,y with
 | .nilp,.nilp=>some (.d (.v (.bool !neg)))
 | .ptr _ _,.nilp=>some (.d (.v (.bool neg)))
 | .nilp,.ptr _ _=>some (.d (.v (.bool neg)))
 | .ip _,.nilp=>some (.d (.v (.bool neg)))
 | _,_=>none
@[go_sem] def boolsA (op:BinOp) (x y:AV):Option AV:=
 match x,y with
 | .d (.v (.bool a)),.d (.v (.bool b)) =>
  match op with
  | .eql=>some (.d (.v (.bool (a == b))))
  | .neq=>some (.d (.v (.bool !(a == b))))
  | _=>none
 | _,_=>none
@[go_sem] def unA (op:UnOp) (x:AV):Option AV:=
 match op,x with
 | .not,.d (.v (.bool b))=>some (.d (.v (.bool !b)))
 | .neg,.d (.v (.int k n))=>some (.d (.v (.int k (k.wrap (0 - n)))))
 | _,_=>none
@[go_sem] def isStr:AV->Bool
 | .d (.v (.string _))=>true
 | _=>false
@[go_sem] def lenA:AV->Option Nat
 | .d (.v (.string s))=>some s.size
 | .d (.sl es)=>some es.length
 | .esl=>some 0
 | .gsl _ _ es=>some es.length
 | .hsl _ _ n _ _=>some n
 | _=>none
@[go_sem] def faA (x:AV) (off:Nat):Option AV:=
 match x with
 | .ptr b o=>some (.ptr b (o + off))
 | .ip cs=>some (.ip (cs.drop off))
 | _=>none
def iaA (x:AV) (i:Int) (sz:Nat):Option AV:=
 match x with
 | .d (.sl es)=>if 0<=i/\i < es.length/\(es.getD i.toNat []).length = sz then some (.ip (es.getD i.toNat [])) else none
 | .gsl _ sz' es=>if 0<=i/\i < es.length/\sz' = sz then some (.ip (es.getD i.toNat [])) else none
 | .hsl b off n _ sz'=>if 0<=i/\i < n/\sz' = sz then some (.ptr b (off + i.toNat * sz)) else none
 | _=>none
@[go_sem] def bnd (s:List AV) (d:Nat):Option Opd->Option Int
 | none=>some d
 | some x=>match get s x with
  | .d (.v (.int _ n))=>some n
  | _=>none
@[go_sem] def slA (x:AV) (lo hi:Int) (sz:Nat):Option AV:=
 match x with
 | .d (.v (.string s))=>if 0<=lo/\lo<=hi/\hi<=s.size then some (.d (.v (.string (s.extract lo.toNat hi.toNat)))) else none
 | .d (.sl es)=>if 0<=lo/\lo<=hi/\hi<=es.length/\es.all (λe=>e.length == sz) = true then some (.d (.sl ((es.drop lo.toNat).take (hi.toNat - lo.toNat)))) else none
 | .gsl _ sz' es=>if 0<=lo/\lo<=hi/\hi<=es.length/\sz' = sz then some (.d (.sl ((es.drop lo.toNat).take (hi.toNat - lo.toNat)))) else none
 | .esl=>if lo = 0/\hi = 0 then some .esl else none
 | .hsl b off _ cap sz'=>if 0<=lo/\lo<=hi/\hi<=cap/\sz' = sz then (if lo = cap then some (.d (.sl [])) else some (.hsl b (off + lo.toNat * sz) (hi.toNat - lo.toNat) (cap - lo.toNat) sz)) else none
 | _=>none
@[go_sem] def wanted (s:List AV):Option (Nat × Bool)->Option Bool
 | none=>some true
 | some (g,b)=>match s.getD g .any with
  | .d (.v (.bool t))=>some (t == b)
  | .tup []=>some false
  | _=>none
@[go_sem] def ints (s:List AV):List Opd->Option (List (IntKind × Int))
 | []=>some []
 | x :: xs=>match get s x,ints s xs with
  | .d (.v (.int k n)),some r=>some ((k,n) :: r)
  | _,_=>none
def elemsA (H:List ABlk) (sz:Nat):AV->Option (List (List AV))
 | .d (.sl es)=>if es.all (λe=>e.length == sz) then some (es.map (·.map .d)) else none
 | .gsl _ sz' es=>if sz' = sz then some (es.map (·.map .d)) else none
 | .esl=>some []
 | .hsl b off n _ sz'=>match H[b]? with
  | some (.cells cs)=>if off + n * sz<=cs.length/\sz' = sz then some ((List.range n).map λi=>(cs.drop (off + i * sz)).take sz) else none
  | _=>none
 | .d (.v (.string s))=>if sz = 1 then some (s.data.toList.map λb=>[AV.d (.v (.int .u8 b.toNat))]) else none
 | _=>none
@[go_sem] def datss:List (List AV)->Option (List (List Dat))
 | []=>some []
 | x :: xs=>match toDats x,datss xs with
  | some d,some ds=>some (d :: ds)
  | _,_=>none
def keyOf1:AV->Option Value
 | .d (.v x)=>if plainV x then some x else none
 | _=>none
def keysOf:List AV->Option (List Value)
 | []=>some []
 | x :: xs=>match keyOf1 x,keysOf xs with
  | some v,some vs=>some (v :: vs)
  | _,_=>none
def keyOf:AV->Option Value
 | .d (.v x)=>if plainV x then some x else none
 | .agg cs=>match keysOf cs with
  | some l=>some (.agg l.toArray)
  | none=>none
 | _=>none
def keq1:Value->Value->Bool
 | .bool a,.bool b=>a == b
 | .int k a,.int k' b=>k == k' && a == b
 | .string a,.string b=>decide (a = b)
 | _,_=>false
def keqL:List Value->List Value->Bool
 | [],[]=>true
 | a :: as,b :: bs=>keq1 a b && keqL as bs
 | _,_=>false
def keq:Value->Value->Bool
 | .agg a,.agg b=>keqL a.toList b.toList
 | a,b=>keq1 a b
def mapGet:List (Value × AV × Nat)->Value->Option (AV × Nat)
 | [],_=>none
 | e :: r,k=>if keq e.1 k then some e.2 else mapGet r k
def mapSet:List (Value × AV × Nat)->Value->AV->List (Value × AV × Nat)
 | [],_,_=>[]
 | e :: r,k,v=>if keq e.1 k then (e.1,v,e.2.2) :: r else e :: mapSet r k v
def mapDel:List (Value × AV × Nat)->Value->List (Value × AV × Nat)
 | [],_=>[]
 | e :: r,k=>if keq e.1 k then r else e :: mapDel r k
def mapPut (ck:Nat) (es:List (Value × AV × Nat)) (k:Value) (v:AV):Nat × List (Value × AV × Nat):=
 match mapGet es k with
 | some _=>(ck,mapSet es k v)
 | none=>(ck + 1,es ++ [(k,v,ck)])
def mapSt:List (Value × AV × Nat)->Int->AV->Option (List (Value × AV × Nat))
 | [],_,_=>none
 | e :: r,t,v=>if (e.2.2:Int) == t then some ((e.1,v,e.2.2) :: r) else match mapSt r t v with
  | some r'=>some (e :: r')
  | none=>none
def mapOf (H:List ABlk) (kt:KT):AV->Option (List (Value × AV × Nat))
 | .mnil=>some []
 | .mp b=>match H[b]? with
  | some (.map kt' _ es)=>if kt' = kt then some es else none
  | _=>none
 | _=>none
def bytesOf:List (List AV)->Option (List UInt8)
 | []=>some []
 | [.d (.v (.int .u8 n))] :: r=>match bytesOf r with
  | some l=>some (UInt8.ofNat n.toNat :: l)
  | none=>none
 | _=>none
def idxB:List UInt8->UInt8->Int
 | [],_=>-1
 | b :: l,c=>if b == c then 0 else if idxB l c == -1 then -1 else idxB l c + 1
@[go_sem] def nilI (neg:Bool):AV->Option AV
 | .d (.v .nilIface)=>some (.d (.v (.bool (!neg))))
 | .ifc _ _=>some (.d (.v (.bool neg)))
 | _=>none
def nilA (mp neg:Bool) (x:AV):Option AV:=
 if mp then match x with
  | .mnil=>some (.d (.v (.bool !neg)))
  | .mp _=>some (.d (.v (.bool neg)))
  | _=>none
 else match x with
  | .esl=>some .ub
  | .d (.sl [])=>some .ub
  | .d (.sl (_ :: _))=>some (.d (.v (.bool neg)))
  | .gsl _ _ []=>some .ub
  | .gsl _ _ (_ :: _)=>some (.d (.v (.bool neg)))
  | .hsl _ _ 0 _ _=>some .ub
  | .hsl _ _ (_ + 1) _ _=>some (.d (.v (.bool neg)))
  | _=>none
def appH (md:Md) (sz bytes:Nat) (a:AV) (xs:List (List AV)) (H:List ABlk):Option (AV × List ABlk):=
 match md,a with
 | .hp,.esl=>if xs.length * bytes<=140737488355328/\xs.length<=maxLen/\xs.flatten.all one = true then some (.hsl H.length 0 xs.length xs.length sz,H ++ [.cells xs.flatten]) else none
 | .hp,.hsl b 0 n _ sz'=>match H[b]? with
  | some (.cells cs)=>if sz' = sz/\n * sz<=cs.length/\(n + xs.length) * bytes<=140737488355328/\n + xs.length<=maxLen/\xs.flatten.all one = true then
   some (.hsl H.length 0 (n + xs.length) (n + xs.length) sz,H.set b .dead ++ [.cells (cs.take (n * sz) ++ xs.flatten)])
   else none
  | _=>none
 | _,_=>none
def keyAV:Value->AV
 | .agg cs=>.agg (cs.toList.map λc=>.d (.v c))
 | k=>.d (.v k)
def entAt:List (Value × AV × Nat)->Nat->Option (Value × AV × Nat)
 | [],_=>none
 | e :: r,b=>if e.2.2 = b then some e else entAt r b
@[go_sem] def evK (k:K) (s:List AV) (H:List ABlk):Option (AV × List ABlk):=
 match k with
 | .mv x=>some (get s x,H)
 | .mvg e sz x=>match get s x with
  | .esl=>some (.gsl H.length sz [],H ++ [.row e sz 0])
  | .gsl b z es=>some (.gsl b z es,H)
  | _=>none
 | .pick c a b=>match get s c with
  | .d (.v (.bool t))=>some (bif t then get s a else get s b,H)
  | _=>none
 | .al z=>some (.ptr H.length 0,H ++ [.cells z])
 | .alb t=>some (.ptr H.length 0,H ++ [.bld t])
 | .bx x=>if shown (get s x) then some (.ptr H.length 0,H ++ [.cells (cellsAV (get s x))]) else none
 | .bd z ps=>match fillA z (ps.map λp=>(p.1,p.2.1,get s p.2.2)) with
  | some cs=>some (.agg cs,H)
  | none=>none
 | .bs md e sz ps =>
  if ps.all (λp=>shown (get s p) && (cellsAV (get s p)).length == sz) then
   match md with
   | .im=>if ps.isEmpty then some (.esl,H) else match datss (ps.map λp=>cellsAV (get s p)) with
    | some es=>some (.d (.sl es),H)
    | none=>none
   | .hp=>some (.hsl H.length 0 ps.length ps.length sz,H ++ [.cells (ps.map λp=>cellsAV (get s p)).flatten])
   | .gr=>match datss (ps.map λp=>cellsAV (get s p)) with
    | some es=>some (.gsl H.length sz es,H ++ [.row e sz es.length])
    | none=>none
  else none
 | .ld x n ag=>match loadA H (get s x) n with
  | some cs=>match outA ag cs with
   | some v=>some (v,H)
   | none=>none
  | none=>none
 | .st x v n=>if shown (get s v) && (cellsAV (get s v)).length == n then
  match storeA H (get s x) (cellsAV (get s v)) with
  | some H'=>some (.tup [],H')
  | none=>none
  else none
 | .nc x=>match get s x with
  | .ptr b o=>some (.ptr b o,H)
  | .ip cs=>some (.ip cs,H)
  | .fn f cs=>some (.fn f cs,H)
  | _=>none
 | .bin op x y=>match binA op (get s x) (get s y) with
  | some v=>some (v,H)
  | none=>none
 | .eqs neg x y=>match boolsA (if neg then .neq else .eql) (get s x) (get s y) with
  | some v=>some (v,H)
  | none=>none
 | .eqp neg x y=>match ptrsA neg (get s x) (get s y) with
  | some v=>some (v,H)
  | none=>none
 | .un op x=>match unA op (get s x) with
  | some v=>some (v,H)
  | none=>none
 | .cvi k x=>match get s x with
  | .d (.v (.int _ n))=>some (.d (.v (.int k (k.wrap n))),H)
  | _=>none
 | .fa x off=>match faA (get s x) off with
  | some v=>some (v,H)
  | none=>none
 | .fld x off n ag=>match get s x with
  | .agg cs=>if off + n<=cs.length then match outA ag ((cs.drop off).take n) with
   | some v=>some (v,H)
   | none=>none
   else none
  | _=>none
 | .ia x i sz=>match get s i with
  | .d (.v (.int _ n))=>match iaA (get s x) n sz with
   | some v=>some (v,H)
   | none=>none
  | _=>none
 | .iar x i n sz=>match get s i with
  | .d (.v (.int _ j))=>if 0<=j/\j < n then match faA (get s x) (j.toNat * sz) with
   | some v=>some (v,H)
   | none=>none
   else none
  | _=>none
 | .ix x i=>match get s x,get s i with
  | .d (.v (.string b)),.d (.v (.int _ j))=>if 0<=j/\j < b.size then some (.d (.v (.int .u8 ((b.data.toList.getD j.toNat 0).toNat))),H) else none
  | _,_=>none
 | .ixv x i n=>match get s x,get s i with
  | .agg cs,.d (.v (.int _ j))=>if 0<=j/\j < n/\n<=cs.length then some (cs.getD j.toNat .any,H) else none
  | _,_=>none
 | .sli str x lo hi sz=>if isStr (get s x) = str then match lenA (get s x) with
  | some n=>match bnd s 0 lo,bnd s n hi with
   | some l,some h=>match slA (get s x) l h sz with
    | some v=>some (v,H)
    | none=>none
   | _,_=>none
  | none=>none
  else none
 | .sla x lo hi n sz=>match get s x with
  | .ptr b off=>match H[b]?,bnd s 0 lo,bnd s n hi with
   | some (.cells cs),some l,some h=>if off + n * sz<=cs.length/\n<=maxLen then match slA (.hsl b off n n sz) l h sz with
    | some v=>some (v,H)
    | none=>none
    else none
   | _,_,_=>none
  | _=>none
 | .slz x=>match lenA (get s x) with
  | some _=>some (.esl,H)
  | none=>none
 | .ext x i=>match get s x with
  | .tup cs=>match cs[i]? with
   | some v=>some (v,H)
   | none=>none
  | _=>none
 | .len str x=>if isStr (get s x) = str then match lenA (get s x) with
  | some n=>some (.d (.v (.int .i64 n)),H)
  | none=>none
  else none
 | .mn xs=>match ints s xs with
  | some ((k,n) :: r)=>some (.d (.v (.int k (r.foldl (λa b=>if b.2 < a then b.2 else a) n))),H)
  | _=>none
 | .mx xs=>match ints s xs with
  | some ((k,n) :: r)=>some (.d (.v (.int k (r.foldl (λa b=>if b.2 > a then b.2 else a) n))),H)
  | _=>none
 | .mkf f caps=>some (.fn f (caps.map (get s)),H)
 | .app md e sz bytes a x=>match elemsA H sz (get s x) with
  | some xs=>match datss xs with
   | some es =>
    match get s a with
    | .esl=>if es.length * bytes<=140737488355328/\es.length<=maxLen then
     match md with
     | .im=>some (.d (.sl es),H)
     | .hp=>some (.hsl H.length 0 es.length es.length sz,H ++ [.cells xs.flatten])
     | .gr=>some (.gsl H.length sz es,H ++ [.row e sz es.length])
     else none
    | .gsl b sz0 old=>match H[b]? with
     | some (.row e' sz' n)=>if n = old.length/\sz0 = sz/\sz' = sz/\e' = e/\(old.length + es.length) * bytes<=140737488355328/\old.length + es.length<=maxLen then
      some (.gsl b sz (old ++ es),H.set b (.row e sz (old.length + es.length))) else none
     | _=>none
    | .hsl b 0 n _ sz'=>match H[b]? with
     | some (.cells cs)=>if sz' = sz/\n * sz<=cs.length/\(n + es.length) * bytes<=140737488355328/\n + es.length<=maxLen then
      some (.hsl H.length 0 (n + es.length) (n + es.length) sz,H.set b .dead ++ [.cells (cs.take (n * sz) ++ xs.flatten)])
      else none
     | _=>none
    | _=>none
   | none=>appH md sz bytes (get s a) xs H
  | none=>none
 | .mks _ _ sz bytes z n c=>match get s n,get s c with
  | .d (.v (.int _ l)),.d (.v (.int _ m))=>if 0<=l/\l<=m/\m.toNat * bytes<=140737488355328/\m.toNat<=maxLen then
   some (.hsl H.length 0 l.toNat m.toNat sz,H ++ [.cells (List.replicate m.toNat z).flatten]) else none
  | _,_=>none
 | .cpy sz d x=>match get s d with
  | .hsl b off n _ sz'=>match H[b]?,elemsA H sz (get s x) with
   | some (.cells cs),some xs=>match datss xs with
    | some es=>if sz' = sz/\es.length<=n/\off + n * sz<=cs.length then
     some (.d (.v (.int .i64 es.length)),H.set b (.cells (splice cs off (es.flatten.map .d)))) else none
    | none=>none
   | _,_=>none
  | _=>none
 | .mkm kt=>some (.mp H.length,H ++ [.map kt 0 []])
 | .lk kt z m k ok=>match keyOf (get s k) with
  | some kv=>if keyFits kt kv = true then match mapOf H kt (get s m) with
   | some es=>match mapGet es kv with
    | some e=>some (if ok then .tup [e.1,.d (.v (.bool true))] else e.1,H)
    | none=>some (if ok then .tup [z,.d (.v (.bool false))] else z,H)
   | none=>none
   else none
  | none=>none
 | .mu kt m k v=>match get s m,keyOf (get s k) with
  | .mp b,some kv=>if keyFits kt kv = true/\shown (get s v) = true then match H[b]? with
   | some (.map kt' ck es)=>if kt' = kt then some (.tup [],H.set b (.map kt (mapPut ck es kv (get s v)).1 (mapPut ck es kv (get s v)).2)) else none
   | _=>none
   else none
  | _,_=>none
 | .me kt z m k=>match get s m,keyOf (get s k) with
  | .mp b,some kv=>if keyFits kt kv = true then match H[b]? with
   | some (.map kt' ck es)=>if kt' = kt then match mapGet es kv with
    | some e=>some (.tup [e.1,.d (.v (.int .i64 e.2))],H)
    | none=>some (.tup [z,.d (.v (.int .i64 ck))],H.set b (.map kt (ck + 1) (es ++ [(kv,z,ck)])))
    else none
   | _=>none
   else none
  | _,_=>none
 | .mes m t v=>match get s m,get s t with
  | .mp b,.d (.v (.int _ n))=>match H[b]? with
   | some (.map kt ck es)=>if shown (get s v) = true then match mapSt es n (get s v) with
    | some es'=>some (.tup [],H.set b (.map kt ck es'))
    | none=>none
    else none
   | _=>none
  | _,_=>none
 | .del kt m k=>match keyOf (get s k) with
  | some kv=>if keyFits kt kv = true then match get s m with
   | .mnil=>some (.tup [],H)
   | .mp b=>match H[b]? with
    | some (.map kt' ck es)=>if kt' = kt then some (.tup [],H.set b (.map kt ck (mapDel es kv))) else none
    | _=>none
   | _=>none
   else none
  | none=>none
 | .s2b _ _ x=>match get s x with
  | .d (.v (.string b))=>if b.size<=maxLen then some (.d (.sl (b.data.toList.map λc=>[.v (.int .u8 c.toNat)])),H) else none
  | _=>none
 | .b2s x=>if isStr (get s x) = false then match elemsA H 1 (get s x) with
  | some xs=>match bytesOf xs with
   | some l=>some (.d (.v (.string ⟨l.toArray⟩)),H)
   | none=>none
  | none=>none
  else none
 | .ixb _ x c=>match get s x,get s c with
  | .d (.v (.string b)),.d (.v (.int .u8 n))=>some (.d (.v (.int .i64 (idxB b.data.toList (UInt8.ofNat n.toNat)))),H)
  | _,_=>none
 | .eqg kt neg x y=>match keyOf (get s x),keyOf (get s y) with
  | some a,some b=>if keyFits kt a = true/\keyFits kt b = true then some (.d (.v (.bool (if neg then !(keq a b) else keq a b))),H) else none
  | _,_=>none
 | .isn mp neg x=>match nilA mp neg (get s x) with
  | some v=>some (v,H)
  | none=>none
 | .mki t x=>some (.ifc t (get s x),H)
 | .tas t z x ok=>match get s x with
  | .ifc t' v=>if t' = t then some (if ok then .tup [v,.d (.v (.bool true))] else v,H) else if ok then some (.tup [z,.d (.v (.bool false))],H) else none
  | .d (.v .nilIface)=>if ok then some (.tup [z,.d (.v (.bool false))],H) else none
  | _=>none
 | .mkb f first=>some (.fnb f (first.map (get s)),H)
 | .mlen x=>match get s x with
  | .mnil=>some (.d (.v (.int .i64 0)),H)
  | .mp b=>match H[b]? with
   | some (.map _ _ es)=>some (.d (.v (.int .i64 es.length)),H)
   | _=>none
  | _=>none
 | .eqi neg x=>match nilI neg (get s x) with
  | some v=>some (v,H)
  | none=>none
 | .rng x=>match get s x with
  | .mp b=>match H[b]? with
   | some (.map _ ck _)=>some (.ptr H.length 0,H ++ [.iter b ck [] ck])
   | _=>none
  | _=>none
 | .ent x=>match get s x with
  | .ptr q 0=>match H[q]? with
   | some (.iter m _ seen last)=>match H[m]?,seen.getLast? with
    | some (.map kt ck es),some b=>if ck = last then match entAt es b with
     | some e=>some (.tup [keyAV e.1,e.2.1],H)
     | none=>none
     else none
    | _,_=>none
   | _=>none
  | _=>none
 | _=>none
def tbF:List (TypeId × FuncId)->TypeId->Option FuncId
 | [],_=>none
 | (t',f) :: r,t=>if t' == t then some f else tbF r t
def ACalls (P:Program) (f:FuncId) (args:List AV) (H:List ABlk) (R:AV->List ABlk->Prop):Prop:=
 ∀ (σ:Sg) (w:World) (vs:List Value),HR σ H w->VRs σ args vs ->
  Calls P f vs.toArray w λe w'=>∃ σ' H' v u,e = .returned u/\Ext σ H w σ' H' w'/\HR σ' H' w'/\VR σ' v u/\R v H'
def callOk (P:Program) (f:FuncId):Bool:=match P.funcs[f]? with
 | some fn => fn.body.isSome && !(fn.name == "runtime.NumGoroutine")
 | none=>false
def wpIns (P:Program):List Ins->List AV->List ABlk->(List AV->List ABlk->Prop)->Prop
 | [],s,H,Kk=>Kk s H
 | i :: r,s,H,Kk =>
  match wanted s i.g with
  | some true =>
   match i.k with
   | .call f args=>ACalls P f (args.map (get s)) H λv H'=>wpIns P r (setO s i.dst v) H' Kk
   | .callv g args=>match get s g with
    | .fn f caps=>callOk P f = true/\ACalls P f (args.map (get s) ++ caps) H λv H'=>wpIns P r (setO s i.dst v) H' Kk
    | .fnb f first=>callOk P f = true/\ACalls P f (first ++ args.map (get s)) H λv H'=>wpIns P r (setO s i.dst v) H' Kk
    | _=>False
   | .inv tb x args=>match get s x with
    | .ifc t v=>match tbF tb t with
     | some f=>ACalls P f (v :: args.map (get s)) H λv H'=>wpIns P r (setO s i.dst v) H' Kk
     | none=>False
    | _=>False
   | k=>match evK k s H with
    | some (v,H')=>wpIns P r (setO s i.dst v) H' Kk
    | none=>False
  | some false=>wpIns P r (setO s i.dst (.tup [])) H Kk
  | none=>False
abbrev APost:=Exit->List AV->List ABlk->Prop
def APost.then (n:List AV->List ABlk->Prop) (Q:APost):APost
 | .normal,s,H=>n s H
 | e,s,H=>Q e s H
def APost.inBlock (id:Nat) (Q:APost):APost
 | .exit id',s,H=>if id' = id then Q .normal s H else Q (.exit id') s H
 | e,s,H=>Q e s H
theorem BR.keep0 {σ σ':Sg} {w w':World} {b:Nat} {k:ABlk} (h:BR σ w b k) (hle:σ.le0 σ') (hφ:∀ n,σ'.φ b n = σ.φ b n)
 (hg:∀ v g,k.live = true->σ.φ b k.ver = some v->conc v = some g->w'.heap[g]? = w.heap[g]?/\∀ a:Addr,a.block = g->σ'.M a = σ.M a):BR σ' w' b k:=by
 cases k with
 | free=>exact λn=>(hφ n).trans (h n)
 | dead=>trivial
 | cells cs =>
  rcases h with ⟨g,vs,t,h1,h1',h2,h3,h4⟩ | ⟨h0,v,h1,h2⟩
  ·obtain ⟨e1,e2⟩:=hg _ g rfl h1 rfl
   exact .inl ⟨g,vs,t,(hφ 0).trans h1,(hφ 1).trans h1',e1.trans h2,h3.mono0 hle,λa ha=>(e2 a ha).trans (h4 a ha)⟩
  ·exact .inr ⟨h0,v,(hφ 0).trans h1,h2⟩
 | row e sz n =>
  obtain ⟨v,xs,h1,h2,h3,h4⟩:=h; refine ⟨v,xs,(hφ n).trans h1,?_,λm hm=>(hφ m).trans (h3 m hm),λg hc=>?_⟩
  ·rcases h2 with h2 | ⟨g,cap,cur,hcap,rfl,hh,r⟩
   ·exact .inl h2
   ·exact .inr ⟨g,cap,cur,hcap,rfl,((hg _ g rfl h1 (by simp [conc]; omega)).1).trans hh,r⟩
  ·obtain ⟨e1,e2⟩:=hg _ g rfl h1 hc
   obtain ⟨h5,h6⟩:=h4 g hc; exact ⟨λj u hj=>(e2 _ rfl).trans (h5 j u hj),λa ha hn=>(e2 a ha).trans (h6 a ha hn)⟩
 | map kt ck es =>
  obtain ⟨g,ms,h1,h2,h3,r⟩:=h; exact ⟨g,ms,(hφ 0).trans h1,((hg _ g rfl h1 rfl).1).trans h2,h3.mono0 hle,r⟩
 | bld t =>
  obtain ⟨g,h1,h1',h2,h3⟩:=h; obtain ⟨e1,e2⟩:=hg _ g rfl h1 rfl; exact ⟨g,(hφ 0).trans h1,(hφ 1).trans h1',e1.trans h2,λa ha=>(e2 a ha).trans (h3 a ha)⟩
 | iter m since seen last =>
  obtain ⟨g,gm,h1,h2,h3⟩:=h; obtain ⟨e1,e2⟩:=hg _ g rfl h1 rfl; exact ⟨g,gm,(hφ 0).trans h1,hle.φ _ _ _ h2,e1.trans h3⟩
theorem BR.keep {σ σ':Sg} {w w':World} {b:Nat} {k:ABlk} (h:BR σ w b k) (hle:σ.le σ') (hφ:∀ n,σ'.φ b n = σ.φ b n)
 (hg:∀ v g,k.live = true->σ.φ b k.ver = some v->conc v = some g->w'.heap[g]? = w.heap[g]?/\∀ a:Addr,a.block = g->σ'.M a = σ.M a):BR σ' w' b k:=h.keep0 hle.l0 hφ hg
def Sg.setD (σ:Sg) (D:List Deferred):Sg:={ σ with D:=D }
theorem Sg.setD_le0 (σ:Sg) (D:List Deferred):σ.le0 (σ.setD D):=⟨λ_ _ h=>h,λ_ _ _ h=>h⟩
theorem HR.setD {σ:Sg} {H:List ABlk} {w:World} (h:HR σ H w) (D:List Deferred):HR (σ.setD D) H w:=
 ⟨h.mem,λb k hb=>(h.blk b k hb).keep0 (σ.setD_le0 D) (λ_=>rfl) λ_ _ _ _ _=>⟨rfl,λ_ _=>rfl⟩,h.fresh,h.inj⟩
theorem Ext.setD {σ σ':Sg} {H H':List ABlk} {w w':World} {D:List Deferred} (h:Ext (σ.setD D) H w σ' H' w'):Ext σ H w (σ'.setD σ.D) H' w':=
 ⟨⟨h.le.M,h.le.φ,rfl⟩,h.os,h.tape,h.output,h.size,h.frame,h.foot,h.new,h.dead⟩
theorem lt_of_heap {w:World} {g:Nat} {o:Obj} (h:w.heap[g]? = some o):g < w.heap.size:=(Array.getElem?_eq_some_iff.1 h).1
theorem BR.lt {σ:Sg} {w:World} {b:Nat} {k:ABlk} (h:BR σ w b k) {v:Value} {g:Nat} (hl:k.live = true) (hv:σ.φ b k.ver = some v) (hc:conc v = some g):g < w.heap.size:=by
 cases k with
 | free=>cases hl
 | dead=>cases hl
 | cells cs =>
  rcases h with ⟨g',vs,t,h1,_,h2,_⟩ | ⟨_,v',h1,h2⟩
  ·rw [show ABlk.ver (.cells cs) = 0 from rfl,h1] at hv; cases hv
   simp [conc] at hc; subst hc; exact lt_of_heap h2
  ·rw [show ABlk.ver (.cells cs) = 0 from rfl,h1] at hv; cases hv
   rw [h2] at hc; cases hc
 | row e sz n =>
  obtain ⟨v',xs,h1,h2,_⟩:=h; rw [show ABlk.ver (.row e sz n) = n from rfl,h1] at hv; cases hv; rcases h2 with ⟨_,_,a,rfl⟩ | ⟨g',cap,cur,hcap,rfl,hh,_⟩
  ·cases a <;> simp [conc] at hc
  ·simp [conc] at hc; obtain ⟨_,rfl⟩:=hc; exact lt_of_heap hh
 | map kt ck es =>
  obtain ⟨g',ms,h1,h2,_⟩:=h; rw [show ABlk.ver (.map kt ck es) = 0 from rfl,h1] at hv; cases hv; simp [conc] at hc; subst hc; exact lt_of_heap h2
 | bld t =>
  obtain ⟨g',h1,_,h2,_⟩:=h; rw [show ABlk.ver (.bld t) = 0 from rfl,h1] at hv; cases hv; simp [conc] at hc; subst hc; exact lt_of_heap h2
 | iter m since seen last =>
  obtain ⟨g',gm,h1,_,h2⟩:=h; rw [show ABlk.ver (.iter m since seen last) = 0 from rfl,h1] at hv; cases hv; simp [conc] at hc; subst hc; exact lt_of_heap h2
theorem HR.turn {σ σ':Sg} {H H':List ABlk} {w w':World} (h:HR σ H w) (hle:σ.le σ') (b0:Nat) (blk0:ABlk)
 (hH:∀ b,b ≠ b0->H'[b]? = H[b]?) (hH0:H'[b0]? = some blk0) (hlen:H.length<=H'.length)
 (hφ:∀ b n,b ≠ b0->σ'.φ b n = σ.φ b n)
 (hmem:MemOk σ'.M w') (hB:BR σ' w' b0 blk0)
 (hoth : ∀ b k v g, b ≠ b0 -> H[b]? = some k -> k.live = true -> σ.φ b k.ver = some v -> conc v = some g ->
   w'.heap[g]? = w.heap[g]?/\(∀ a:Addr,a.block = g->σ'.M a = σ.M a)/\(∀ v0,blk0.live = true->σ'.φ b0 blk0.ver = some v0->conc v0 ≠ some g)) :
 HR σ' H' w':=by
 refine ⟨hmem,λb k hb=>?_,λb n hb=>?_,?_⟩
 ·by_cases e:b = b0
  ·subst e; rw [hH0] at hb; cases hb; exact hB
  ·rw [hH b e] at hb
   exact (h.blk b k hb).keep hle (λn=>hφ b n e) λv g hl hv hc=>⟨(hoth b k v g e hb hl hv hc).1,(hoth b k v g e hb hl hv hc).2.1⟩
 ·have hne : b ≠ b0 := by
   rintro rfl; rw [List.getElem?_eq_none hb] at hH0; cases hH0
  rw [hφ b n hne]; exact h.fresh b n (by omega)
 ·intro b b' k k' v v' g hb hb' hl hl' hv hv' hc hc'
  by_cases e:b = b0
  ·by_cases e':b' = b0
   ·rw [e,e']
   ·subst e
    rw [hH0] at hb; cases hb; rw [hH b' e'] at hb'; rw [hφ b' _ e'] at hv'; exact absurd hc ((hoth b' k' v' g e' hb' hl' hv' hc').2.2 v hl hv)
  ·rw [hH b e] at hb
   rw [hφ b _ e] at hv
   by_cases e':b' = b0
   ·subst e'
    rw [hH0] at hb'; cases hb'; exact absurd hc' ((hoth b k v g e hb hl hv hc).2.2 v' hl' hv')
   ·rw [hH b' e'] at hb'
    rw [hφ b' _ e'] at hv'; exact h.inj b b' k k' v v' g hb hb' hl hl' hv hv' hc hc'
def Sg.putφ (σ:Sg) (b n:Nat) (v:Value):Sg:={ σ with φ:=λb' n'=>if b' = b/\n' = n then some v else σ.φ b' n' }
theorem Sg.putφ_le {σ:Sg} {b n:Nat} {v:Value} (h:σ.φ b n = none):σ.le (σ.putφ b n v):=
 ⟨fun _ _ h => h, fun b' n' v' h' => by
   unfold Sg.putφ
   simp only
   split
   ·rename_i e; rw [e.1,e.2,h] at h'; cases h'
   ·exact h',rfl⟩
theorem Sg.putφ_same (σ:Sg) (b n:Nat) (v:Value):(σ.putφ b n v).φ b n = some v:=by simp [Sg.putφ]
theorem Sg.putφ_other (σ:Sg) (b n:Nat) (v:Value) {b':Nat} (n':Nat) (h:b' ≠ b):(σ.putφ b n v).φ b' n' = σ.φ b' n':=by simp [Sg.putφ,h]
theorem Sg.putφ_ver (σ:Sg) (b n:Nat) (v:Value) {n':Nat} (h:n' ≠ n):(σ.putφ b n v).φ b n' = σ.φ b n':=by simp [Sg.putφ,h]
@[simp] theorem Sg.putφ_M (σ:Sg) (b n:Nat) (v:Value):(σ.putφ b n v).M = σ.M:=rfl
def Sg.putM (σ:Sg) (g:Nat) (vs:List Value) (from_:Nat):Sg:=
 { σ with M:=λa=>if a.block = g/\a.spot = none/\from_<=a.off/\a.off < vs.length then vs[a.off]? else σ.M a }
theorem alloc_heap_new (w:World) (o:Obj):(w.alloc o).heap[w.heap.size]? = some o:=by
 show (w.heap.push o)[w.heap.size]? = some o
 simp
theorem alloc_heap_old (w:World) (o:Obj) {k:Nat} (h:k < w.heap.size):(w.alloc o).heap[k]? = w.heap[k]?:=by
 show (w.heap.push o)[k]? = _
 simp [Array.getElem?_push,Nat.ne_of_lt h]
theorem HR.Mlt {σ:Sg} {H:List ABlk} {w:World} (h:HR σ H w) {a:Addr} {v:Value} (hm:σ.M a = some v):a.block < w.heap.size:=
 World.block_lt_of_cell? w a (h.mem a v hm)
theorem SzOk.alloc {w:World} (h:SzOk w) (o:Obj):SzOk (w.alloc o):=h.to λt ht c e f hc=>⟨c,e,f,by rw [alloc_heap_old w o (Array.getElem?_eq_some_iff.1 hc).1]; exact hc,rfl⟩
theorem HR.mem_alloc {σ:Sg} {H:List ABlk} {w:World} (h:HR σ H w) (o:Obj) (a:Addr) (v:Value) (hm:σ.M a = some v):(w.alloc o).cell? a = some v:=by
 rw [World.cell?_alloc_lt w o a (h.Mlt hm)]; exact h.mem a v hm
theorem getElem?_concat_ne {α:Type} (H:List α) (x:α) {b:Nat} (h:b ≠ H.length):(H ++ [x])[b]? = H[b]?:=by
 rw [List.getElem?_append]
 split
 ·rfl
 ·rename_i hb
  have h1:([x]:List α).length<=b - H.length:=by simp; omega
  rw [List.getElem?_eq_none h1,List.getElem?_eq_none (by omega)]
theorem dead_concat {H:List ABlk} {x:ABlk} {b:Nat} {φ φ':Nat->Nat->Option Value} (hb:H[b]? = some .dead) (h:∀ n,b ≠ H.length->φ' b n = φ b n) :
 (H ++ [x])[b]? = some .dead/\∀ n,φ' b n = φ b n:=by
 have hlt:b < H.length:=(List.getElem?_eq_some_iff.1 hb).1; exact ⟨by rw [List.getElem?_append_left hlt]; exact hb,λn=>h n (by omega)⟩
theorem dead_set {H:List ABlk} {x k:ABlk} {b b0:Nat} {φ φ':Nat->Nat->Option Value} (hb:H[b]? = some .dead) (h0:H[b0]? = some k) (hk:k ≠ .dead) (h:∀ n,b ≠ b0->φ' b n = φ b n) :
 (H.set b0 x)[b]? = some .dead/\∀ n,φ' b n = φ b n:=by
 have hne:b ≠ b0:=λe=>by subst e; rw [hb] at h0; cases h0; exact hk rfl
 exact ⟨by rw [List.getElem?_set_ne (Ne.symm hne)]; exact hb,λn=>h n hne⟩
theorem HR.placeAt {σ:Sg} {H:List ABlk} {w:World} (h:HR σ H w) (g:Nat) (t:TypeId) (w':World) {cs:List AV} {vs:Array Value} (hos:w'.os = w.os) (htp:w'.tape = w.tape) (hout:w'.output = w.output) (hsize:w.heap.size<=w'.heap.size)
 (hg:w'.heap[g]? = some (.cells vs t (0,0))) (hfr:∀ k,k ≠ g->k < w.heap.size->w'.heap[k]? = w.heap[k]?) (hM:∀ a:Addr,a.block = g->σ.M a = none)
 (hnf:∀ b k v,H[b]? = some k->k.live = true->σ.φ b k.ver = some v->conc v ≠ some g) (H0:List ABlk) (hfoot:foot σ H0 g\/w.heap.size<=g) (hH0:∀ k,foot σ H k->foot σ H0 k)
 (hdead:∀ b:Nat,H0[b]? = some .dead->H[b]? = some .dead) (hlen:H0.length = H.length) (hv:VRs σ cs (vs.toList.take cs.length)) :
 ∃ σ',Ext σ H0 w σ' (H ++ [.cells cs]) w'/\HR σ' (H ++ [.cells cs]) w'/\VR σ' (.ptr H.length 0) (.pointer (some ⟨g,0,none⟩)) /\
  σ'.φ H.length 0 = some (.pointer (some ⟨g,0,none⟩))/\σ'.φ H.length 1 = some (.int .i64 vs.size):=by
 have hnew:∀ n,σ.φ H.length n = none:=λn=>h.fresh _ _ (Nat.le_refl _)
 let σ1:=σ.putφ H.length 0 (.pointer (some ⟨g,0,none⟩))
 have hn1:σ1.φ H.length 1 = none:=by rw [Sg.putφ_ver _ _ _ _ (by omega)]; exact hnew 1
 have hle:σ.le (σ1.putφ H.length 1 (.int .i64 vs.size)):=(Sg.putφ_le (hnew 0)).trans (Sg.putφ_le hn1); have p0:(σ1.putφ H.length 1 (.int .i64 vs.size)).φ H.length 0 = some (.pointer (some ⟨g,0,none⟩)):=by rw [Sg.putφ_ver _ _ _ _ (by omega)]; exact Sg.putφ_same ..
 have p1:(σ1.putφ H.length 1 (.int .i64 vs.size)).φ H.length 1 = some (.int .i64 vs.size):=Sg.putφ_same ..; have po:∀ b n,b ≠ H.length->(σ1.putφ H.length 1 (.int .i64 vs.size)).φ b n = σ.φ b n:=λb n hb=>by rw [Sg.putφ_other _ _ _ _ _ hb,Sg.putφ_other _ _ _ _ _ hb]
 refine ⟨σ1.putφ H.length 1 (.int .i64 vs.size),?_,?_,.ptr p0,p0,p1⟩
 ·refine ⟨hle,hos,htp,hout,hsize,λk hk hf=>hfr k (λe=>?_) hk,?_,λ_ h=>absurd rfl h,λb hb=>?_⟩
  ·subst e
   rcases hfoot with hf' | hf'
   ·exact hf hf'
   ·omega
  ·rintro k ⟨b,blk,v,hb,hl,hφ,hc⟩
   by_cases e:b = H.length
   ·subst e
    simp at hb; subst hb; rw [show ABlk.ver (.cells cs) = 0 from rfl,p0] at hφ
    cases hφ
    simp [conc] at hc; subst hc; exact hfoot
   ·rw [getElem?_concat_ne H _ e] at hb
    rw [po _ _ e] at hφ; exact .inl (hH0 k ⟨b,blk,v,hb,hl,hφ,hc⟩)
  ·have hb':=hdead b hb
   exact dead_concat hb' (λn h=>po _ _ h)
 ·refine h.turn hle H.length (.cells cs) (fun b hb => getElem?_concat_ne H _ hb) (by simp) (by simp) (fun b n hb => po _ _ hb)
   ⟨λa v hm=>?_,h.mem.gl,h.mem.sz.to λt0 ht0 c e f hc=>?_⟩ ?_ ?_
  rotate_left
  ·have hne : t0.1 ≠ g := fun e => by
    obtain ⟨v,hv⟩:=h.mem.gl.ne ht0; rw [hM _ e] at hv; cases hv
   exact ⟨c,e,f,(hfr _ hne (Array.getElem?_eq_some_iff.1 hc).1).trans hc,rfl⟩
  rotate_right
  ·have hm0:σ.M a = some v:=hm
   have hne:a.block ≠ g:=λe=>by rw [hM a e] at hm0; cases hm0
   have hm':=h.mem a v hm; have hlt:=h.Mlt hm; simp only [World.cell?,hfr _ hne hlt] at hm' ⊢; exact hm'
  ·exact .inl ⟨g,vs,t,p0,p1,hg,hv.mono hle,hM⟩
  ·intro b k v g' hb hk hl hv' hc
   have hlt:=(h.blk b k hk).lt hl hv' hc; have hne:g' ≠ g:=λe=>hnf b k v hk hl hv' (by rw [hc,e])
   refine ⟨hfr _ hne hlt,λ_ _=>rfl,λv0 _ hv0=>?_⟩; rw [show ABlk.ver (.cells cs) = 0 from rfl,p0] at hv0
   cases hv0
   simp [conc]; exact λe=>hne e.symm
theorem HR.allocP {σ:Sg} {H:List ABlk} {w:World} (h:HR σ H w) (t:TypeId) {cs:List AV} {vs:Array Value} (hv:VRs σ cs (vs.toList.take cs.length)) :
 ∃ σ',Ext σ H w σ' (H ++ [.cells cs]) (w.alloc (.cells vs t))/\HR σ' (H ++ [.cells cs]) (w.alloc (.cells vs t))/\VR σ' (.ptr H.length 0) (.pointer (some ⟨w.heap.size,0,none⟩)) /\
  σ'.φ H.length 0 = some (.pointer (some ⟨w.heap.size,0,none⟩))/\σ'.φ H.length 1 = some (.int .i64 vs.size):=by
 refine h.placeAt w.heap.size t (w.alloc (.cells vs t)) rfl rfl rfl (by simp) (alloc_heap_new w _) (λk _ hk=>alloc_heap_old w _ hk) (λa ha=>?_) (λb k v hb hl hv' hc=>?_) H (.inr (Nat.le_refl _)) (λ_ h=>h) (λ_ h=>h) rfl hv
 ·cases hm:σ.M a with
  | none=>rfl
  | some v=>have:=h.Mlt hm; omega
 ·have:=(h.blk b k hb).lt hl hv' hc; omega
theorem HR.alloc {σ:Sg} {H:List ABlk} {w:World} (h:HR σ H w) (t:TypeId) {cs:List AV} {vs:Array Value} (hv:VRs σ cs vs.toList) :
 ∃ σ',Ext σ H w σ' (H ++ [.cells cs]) (w.alloc (.cells vs t))/\HR σ' (H ++ [.cells cs]) (w.alloc (.cells vs t))/\VR σ' (.ptr H.length 0) (.pointer (some ⟨w.heap.size,0,none⟩)) /\
  σ'.φ H.length 0 = some (.pointer (some ⟨w.heap.size,0,none⟩))/\σ'.φ H.length 1 = some (.int .i64 vs.size):=h.allocP t hv.pre
theorem HR.place0 {σ:Sg} {H:List ABlk} {w:World} (h:HR σ H w) (v:Value) (hc:conc v = none) :
 ∃ σ',Ext σ H w σ' (H ++ [.cells []]) w/\HR σ' (H ++ [.cells []]) w/\σ'.φ H.length 0 = some v:=by
 have hnew:∀ n,σ.φ H.length n = none:=λn=>h.fresh _ _ (Nat.le_refl _)
 have hle:=Sg.putφ_le (v:=v) (hnew 0); refine ⟨σ.putφ H.length 0 v,⟨hle,rfl,rfl,rfl,Nat.le_refl _,λ_ _ _=>rfl,?_,λ_ h=>absurd rfl h,λb hb=>dead_concat hb (λn hne=>Sg.putφ_other _ _ _ _ _ hne)⟩,?_,Sg.putφ_same ..⟩
 ·rintro k ⟨b',blk,v',hb,hl,hφ,hc'⟩
  by_cases e':b' = H.length
  ·subst e'
   simp at hb; subst hb; rw [show ABlk.ver (.cells []) = 0 from rfl,Sg.putφ_same] at hφ
   cases hφ
   rw [hc] at hc'; cases hc'
  ·rw [getElem?_concat_ne H _ e'] at hb
   rw [Sg.putφ_other _ _ _ _ _ e'] at hφ; exact .inl ⟨b',blk,v',hb,hl,hφ,hc'⟩
 ·refine h.turn hle H.length (.cells []) (fun b hb => getElem?_concat_ne H _ hb) (by simp) (by simp) (fun b n hb => Sg.putφ_other _ _ _ _ _ hb) h.mem
   (.inr ⟨rfl,v,Sg.putφ_same ..,hc⟩) λb' k v' g hb hk hl hv hcv=>⟨rfl,λ_ _=>rfl,λv0 _ hv0=>?_⟩
  rw [show ABlk.ver (.cells []) = 0 from rfl,Sg.putφ_same] at hv0
  cases hv0
  rw [hc]; simp
theorem HR.die {σ:Sg} {H:List ABlk} {w:World} (h:HR σ H w) (b0:Nat) (hl0:b0 < H.length):HR σ (H.set b0 .dead) w:=by
 have hset:∀ b,b ≠ b0->(H.set b0 .dead)[b]? = H[b]?:=λb hne=>by rw [List.getElem?_set_ne (Ne.symm hne)]
 refine h.turn (.refl σ) b0 .dead hset (by simp [hl0]) (by simp) (λ_ _ _=>rfl) h.mem trivial λb k v g hb hk hl hv hc=>⟨rfl,λ_ _=>rfl,λv0 hd=>by cases hd⟩
theorem foot_die {σ:Sg} {H:List ABlk} {b0 k:Nat} (h:foot σ (H.set b0 .dead) k):foot σ H k:=by
 obtain ⟨b,blk,v,hb,hl,hφ,hc⟩:=h
 by_cases e:b = b0
 ·subst e
  rw [List.getElem?_set] at hb; simp only [if_true] at hb
  split at hb
  ·cases hb; cases hl
  ·cases hb
 ·rw [List.getElem?_set_ne (Ne.symm e)] at hb
  exact ⟨b,blk,v,hb,hl,hφ,hc⟩
theorem HR.retag {σ:Sg} {H:List ABlk} {w:World} (h:HR σ H w) {b g:Nat} {cs:List AV} {t:TypeId} (hb:H[b]? = some (.cells cs)) (h0:σ.φ b 0 = some (.pointer (some ⟨g,0,none⟩))) (h1:σ.φ b 1 = some (.int .i64 2))
 (hg:w.heap[g]? = some (.cells #[.pointer none,.slice none 0 0] t (0,0))):HR σ (H.set b (.bld t)) w:=by
 have hl0:b < H.length:=(List.getElem?_eq_some_iff.1 hb).1; obtain ⟨vs,t',_,_,_,h5⟩:=h.cellsAt hb h0; have hset:∀ b',b' ≠ b->(H.set b (.bld t))[b']? = H[b']?:=λb' hne=>by rw [List.getElem?_set_ne (Ne.symm hne)]
 refine h.turn (.refl σ) b (.bld t) hset (by simp [hl0]) (by simp) (λ_ _ _=>rfl) h.mem ⟨g,h0,h1,hg,h5⟩ λb' k v g' hb' hk hl hv hc=>⟨rfl,λ_ _=>rfl,λv0 _ hv0 hc0=>?_⟩
 exact hb' (h.inj b' b k _ v v0 g' hk hb hl rfl hv hv0 hc hc0)
theorem foot_retag {σ:Sg} {H:List ABlk} {b:Nat} {cs:List AV} {t:TypeId} (hb:H[b]? = some (.cells cs)) {k:Nat}:foot σ (H.set b (.bld t)) k ↔ foot σ H k:=by
 have hl0:b < H.length:=(List.getElem?_eq_some_iff.1 hb).1
 constructor
 ·rintro ⟨b',blk,v,h1,hl,hφ,hc⟩
  by_cases e:b' = b
  ·subst e
   rw [List.getElem?_set_self hl0] at h1
   cases h1
   exact ⟨b',_,v,hb,rfl,hφ,hc⟩
  ·rw [List.getElem?_set_ne (Ne.symm e)] at h1
   exact ⟨b',blk,v,h1,hl,hφ,hc⟩
 ·rintro ⟨b',blk,v,h1,hl,hφ,hc⟩
  by_cases e:b' = b
  ·subst e
   rw [hb] at h1
   cases h1
   exact ⟨b',.bld t,v,List.getElem?_set_self hl0,rfl,hφ,hc⟩
  ·exact ⟨b',blk,v,by rw [List.getElem?_set_ne (Ne.symm e)]; exact h1,hl,hφ,hc⟩
theorem HR.allocMF {σ:Sg} {H:List ABlk} {w:World} (h:HR σ H w) (t:TypeId) (vs:Array Value) (fr:Nat × Nat) :
 ∃ σ',Ext σ H w σ' H (w.alloc (.cells vs t fr))/\HR σ' H (w.alloc (.cells vs t fr))/\(∀ j u,vs[j]? = some u->σ'.M ⟨w.heap.size,j,none⟩ = some u)/\σ'.φ = σ.φ:=by
 have hnoM:∀ a:Addr,a.block = w.heap.size->σ.M a = none:=λa ha=>by
  cases hm:σ.M a with
  | none=>rfl
  | some v=>have:=h.Mlt hm; omega
 let σ':Sg:={ σ with M:=λa=>if a.block = w.heap.size/\a.spot = none then vs[a.off]? else σ.M a }
 have hle:σ.le σ':=⟨λa v hm=>by
  show (if a.block = w.heap.size/\a.spot = none then vs[a.off]? else σ.M a) = some v
  rw [if_neg (λe=>by have:=h.Mlt hm; omega)]; exact hm,λ_ _ _ h=>h,rfl⟩
 have hsame:∀ a:Addr,a.block ≠ w.heap.size->σ'.M a = σ.M a:=λa ha=>if_neg (λe=>ha e.1)
 refine ⟨σ',⟨hle,rfl,rfl,rfl,by simp,λk hk _=>alloc_heap_old w _ hk,λk hk=>.inl hk,λa ha=>.inr (by
  rcases Nat.lt_or_ge a.block w.heap.size with hl | hl
  ·exact absurd (hsame a (by omega)) ha
  ·exact hl),λ_ h=>⟨h,λ_=>rfl⟩⟩,⟨⟨λa v hm=>?_,h.mem.gl.mono hle.M,h.mem.sz.alloc _⟩,λb k hb=>?_,h.fresh,h.inj⟩,λj u hj=>?_,rfl⟩
 ·by_cases e:a.block = w.heap.size/\a.spot = none
  ·have hm' : vs[a.off]? = some v := by
    have:σ'.M a = vs[a.off]?:=if_pos e; rw [this] at hm; exact hm
   simp only [World.cell?,e.1,alloc_heap_new,e.2,Option.isSome_none,Bool.false_eq_true,if_false]; exact hm'
  ·have:σ'.M a = σ.M a:=if_neg e
   rw [this] at hm; exact h.mem_alloc _ a v hm
 ·refine (h.blk b k hb).keep hle (λ_=>rfl) λv g hl hv hc=>?_
  have hlt:=(h.blk b k hb).lt hl hv hc; exact ⟨alloc_heap_old w _ hlt,λa ha=>hsame a (by omega)⟩
 ·exact (if_pos ⟨rfl,rfl⟩:σ'.M ⟨w.heap.size,j,none⟩ = vs[j]?).trans hj
theorem HR.allocM {σ:Sg} {H:List ABlk} {w:World} (h:HR σ H w) (t:TypeId) (vs:Array Value) :
 ∃ σ',Ext σ H w σ' H (w.alloc (.cells vs t))/\HR σ' H (w.alloc (.cells vs t))/\(∀ j u,vs[j]? = some u->σ'.M ⟨w.heap.size,j,none⟩ = some u)/\σ'.φ = σ.φ:=h.allocMF t vs (0,0)
theorem all_one {σ:Sg} {x:AV} {u:Value} (h:VR σ x u) (ho:one x = true):u.oneCell' = true:=by
 cases h <;> first | rfl | (cases ho; done) | skip
 ·rename_i h; cases h <;> first | rfl | skip
  rename_i h; cases u <;> first | rfl | cases h
 ·rename_i h; cases h <;> rfl
theorem HR.setCells {σ:Sg} {H:List ABlk} {w:World} (h:HR σ H w) {b g:Nat} {cs cs':List AV} (hb:H[b]? = some (.cells cs)) (h1:σ.φ b 0 = some (.pointer (some ⟨g,0,none⟩))) :
 ∃ vs t,σ.φ b 1 = some (.int .i64 vs.size)/\w.heap[g]? = some (.cells vs t (0,0))/\VRs σ cs (vs.toList.take cs.length) /\
  ∀ vs':Array Value,vs'.size = vs.size->VRs σ cs' (vs'.toList.take cs'.length)->Ext σ H w σ (H.set b (.cells cs')) (w.setRow g vs')/\HR σ (H.set b (.cells cs')) (w.setRow g vs'):=by
 obtain ⟨vs,t,h1',h2,h3,h4⟩:=h.cellsAt hb h1; refine ⟨vs,t,h1',h2,h3,λvs' hsz' hv'=>?_⟩; have hlt:b < H.length:=by
  rcases Nat.lt_or_ge b H.length with hl | hl
  ·exact hl
  ·rw [List.getElem?_eq_none hl] at hb; cases hb
 have hset:∀ b',b' ≠ b->(H.set b (.cells cs'))[b']? = H[b']?:=λb' hne=>by rw [List.getElem?_set_ne (Ne.symm hne)]
 have hset0:(H.set b (.cells cs'))[b]? = some (.cells cs'):=by simp [hlt]
 refine ⟨⟨.refl σ,rfl,rfl,rfl,by simp,λk hk hf=>setRow_other w g k vs' (λe=>hf ?_),?_,λ_ h=>absurd rfl h,λb' hd=>dead_set hd hb (by simp) (λ_ _=>rfl)⟩,?_⟩
 ·subst e; exact ⟨b,_,_,hb,rfl,h1,rfl⟩
 ·rintro k ⟨b',blk,v,hb',hl,hφ,hc⟩
  by_cases e:b' = b
  ·subst e
   rw [hset0] at hb'; cases hb'; exact .inl ⟨b',_,v,hb,rfl,hφ,hc⟩
  ·rw [hset b' e] at hb'
   exact .inl ⟨b',blk,v,hb',hl,hφ,hc⟩
 ·refine h.turn (.refl σ) b (.cells cs') hset hset0 (by simp) (λ_ _ _=>rfl) ⟨λa v hm=>?_,h.mem.gl,h.mem.sz.to λt0 ht0 c e f hc=>⟨c,e,f,?_,rfl⟩⟩ (.inl ⟨g,vs',t,h1,by rw [hsz']; exact h1',setRow_heap w g vs vs' t _ h2,hv',h4⟩) ?_
  rotate_left
  ·have hne : t0.1 ≠ g := fun e => by
    obtain ⟨v,hv⟩:=h.mem.gl.ne ht0; rw [h4 _ e] at hv; cases hv
   rw [setRow_other w g _ vs' hne]; exact hc
  rotate_right
  ·have hne:a.block ≠ g:=λe=>by rw [h4 a e] at hm; cases hm
   rw [cell_setRow_other w g vs' a hne]; exact h.mem a v hm
  ·intro b' k v g' hne hk hl hφ hc
   have hgg:g' ≠ g:=λe=>hne (h.inj b' b k _ v _ g' hk hb hl rfl hφ h1 hc (by simp [conc,e]))
   refine ⟨setRow_other w g g' vs' hgg,λ_ _=>rfl,λv0 _ hv0=>?_⟩; rw [show ABlk.ver (.cells cs') = 0 from rfl,h1] at hv0
   cases hv0
   simp [conc]; exact λe=>hgg e.symm
theorem VD.sl_cells {M:Mem} {es:List (List Dat)} {v:Value} (h:VD M (.sl es) v) :
 ∃ a cap,v = .slice a es.length cap/\es.length<=maxLen/\(es ≠ []->es.length<=cap/\∃ ad sz,a = some ad/\(∀ e ∈ es,e.length = sz)/\∃ u:Nat->Nat->Value,
  (∀ (i:Nat) (e:List Dat) (j:Nat) (d:Dat),es[i]? = some e->e[j]? = some d->M (ad.add (i * sz + j)) = some (u i j)) /\
  (∀ (i:Nat) (e:List Dat) (j:Nat) (d:Dat),es[i]? = some e->e[j]? = some d->VD M d (u i j))):=by
 cases h with
 | nil=>exact ⟨_,_,rfl,Nat.zero_le _,λh=>absurd rfl h⟩
 | sl u h1 h2 hm h3 h4 h5=>exact ⟨_,_,rfl,Nat.le_trans h2 hm,λ_=>⟨h2,_,_,rfl,h3,u,h4,h5⟩⟩
def VDs (M:Mem) (ds:List Dat) (us:List Value):Prop:=ds.length = us.length/\∀ (i:Nat) (d:Dat) (u:Value),ds[i]? = some d->us[i]? = some u->VD M d u
theorem VDs.mono {M M':Mem} (h:∀ a v,M a = some v->M' a = some v) {ds:List Dat} {us:List Value} (hv:VDs M ds us):VDs M' ds us:=
 ⟨hv.1,λi d u h1 h2=>(hv.2 i d u h1 h2).mono h⟩
theorem VDs.append {M:Mem} {ds ds':List Dat} {us us':List Value} (h:VDs M ds us) (k:VDs M ds' us'):VDs M (ds ++ ds') (us ++ us'):=by
 refine ⟨by simp [h.1,k.1],λi c u h1 h2=>?_⟩; rw [List.getElem?_append] at h1 h2
 by_cases hi:i < ds.length
 ·rw [if_pos hi] at h1
  rw [if_pos (by rw [<- h.1]; exact hi)] at h2; exact h.2 i c u h1 h2
 ·rw [if_neg hi] at h1
  rw [if_neg (by rw [<- h.1]; exact hi)] at h2; rw [<- h.1] at h2; exact k.2 _ c u h1 h2
theorem flat_at {α:Type} {es:List (List α)} {sz:Nat} (h:∀ e ∈ es,e.length = sz):∀ (i:Nat) (e:List α) (j:Nat) (d:α),es[i]? = some e->e[j]? = some d->es.flatten[i * sz + j]? = some d:=by
 induction es with
 | nil=>intro i e j d hi; simp at hi
 | cons x es ih =>
  intro i e j d hi hj
  have hx:x.length = sz:=h x (by simp)
  cases i with
  | zero =>
   simp at hi; subst hi; have hlt:j < x.length:=by
    rcases Nat.lt_or_ge j x.length with hl | hl
    ·exact hl
    ·rw [List.getElem?_eq_none hl] at hj; cases hj
   simp [List.getElem?_append,hlt]
   simpa [gEe hlt] using hj
  | succ i =>
   simp at hi; have:=ih (λe he=>h e (by simp [he])) i e j d hi hj; rw [List.flatten_cons,List.getElem?_append_right (by rw [hx,Nat.succ_mul]; omega),hx]; rw [show (i + 1) * sz + j - sz = i * sz + j by rw [Nat.succ_mul]; omega]; exact this
theorem flat_len {α:Type} {es:List (List α)} {sz:Nat} (h:∀ e ∈ es,e.length = sz):es.flatten.length = es.length * sz:=by
 induction es with
 | nil=>simp
 | cons x es ih=>rw [List.flatten_cons,List.length_append,h x (by simp),ih (λe he=>h e (by simp [he])),List.length_cons,Nat.succ_mul]; omega
theorem VD.of_cells {M:Mem} {es:List (List Dat)} {sz:Nat} (h:∀ e ∈ es,e.length = sz) (ad:Addr) (cap:Nat) (hc:es.length<=cap) (hm:cap<=maxLen) {us:List Value}
 (hv:VDs M es.flatten us) (hM:∀ j u,us[j]? = some u->M (ad.add j) = some u):VD M (.sl es) (.slice (some ad) es.length cap):=by
 by_cases h0:es = []
 ·subst h0; exact .nil
 ·have hu : ∀ (i : Nat) (e : List Dat) (j : Nat) (d : Dat), es[i]? = some e -> e[j]? = some d -> ∃ u, us[i * sz + j]? = some u /\ VD M d u := by
   intro i e j d hi hj
   have hf:=flat_at h i e j d hi hj; have hlt:i * sz + j < us.length:=by
    rw [<- hv.1]; rcases Nat.lt_or_ge (i * sz + j) es.flatten.length with hl | hl
    ·exact hl
    ·rw [List.getElem?_eq_none hl] at hf; cases hf
   exact ⟨us[i * sz + j],gEe hlt,hv.2 _ d _ hf (gEe hlt)⟩
  refine .sl (λi j=>us.getD (i * sz + j) undef) h0 hc hm h (λi e j d hi hj=>?_) (λi e j d hi hj=>?_)
  ·obtain ⟨u,h1,_⟩:=hu i e j d hi hj
   rw [hM _ u h1]; simp [h1]
  ·obtain ⟨u,h1,h2⟩:=hu i e j d hi hj
   simpa [h1] using h2
theorem VD.to_cells {M:Mem} {es:List (List Dat)} {v:Value} (h:VD M (.sl es) v):es = []\/∃ ad cap sz us,v = .slice (some ad) es.length cap/\es.length<=cap/\cap<=maxLen/\(∀ e ∈ es,e.length = sz)/\VDs M es.flatten us/\∀ j u,us[j]? = some u->M (ad.add j) = some u:=by
 cases h with
 | nil=>exact .inl rfl
 | sl u h1 h2 hm h3 h4 h5 =>
  rename_i ad cap sz
  refine .inr ⟨ad,cap,sz,(List.range (es.length * sz)).map λk=>u (k / sz) (k % sz),rfl,h2,hm,h3,⟨by simp [flat_len h3],λi d x hi hx=>?_⟩,λj x hx=>?_⟩
  all_goals
   rw [List.getElem?_map,Option.map_eq_some_iff] at hx; obtain ⟨k,hk,rfl⟩:=hx; have hk':=List.getElem?_eq_some_iff.1 hk; obtain ⟨hlt,hk2⟩:=hk'; simp at hlt hk2; subst hk2; have hszpos:0 < sz:=by
    rcases Nat.eq_zero_or_pos sz with e | e
    ·subst e; simp at hlt
    ·exact e
  ·have hi1:i / sz < es.length:=(Nat.div_lt_iff_lt_mul hszpos).2 hlt
   have hj1:i % sz < (es[i / sz]).length:=by rw [h3 _ (List.getElem_mem hi1)]; exact Nat.mod_lt _ hszpos
   have hf:=flat_at h3 (i / sz) _ (i % sz) _ (gEe hi1) (gEe hj1); rw [show i / sz * sz + i % sz = i from Nat.div_add_mod' i sz,hi] at hf
   cases hf
   exact h5 (i / sz) _ (i % sz) _ (gEe hi1) (gEe hj1)
  ·have hi1:j / sz < es.length:=(Nat.div_lt_iff_lt_mul hszpos).2 hlt
   have hj1:j % sz < (es[j / sz]).length:=by rw [h3 _ (List.getElem_mem hi1)]; exact Nat.mod_lt _ hszpos
   have:=h4 (j / sz) _ (j % sz) _ (gEe hi1) (gEe hj1)
   rwa [show j / sz * sz + j % sz = j from Nat.div_add_mod' j sz] at this
theorem putM_in {σ:Sg} {g:Nat} {vs:List Value} {fr j:Nat} (h1:fr<=j) {u:Value} (h2:vs[j]? = some u):(σ.putM g vs fr).M ⟨g,j,none⟩ = some u:=by
 have hlt:j < vs.length:=by
  rcases Nat.lt_or_ge j vs.length with hl | hl
  ·exact hl
  ·rw [List.getElem?_eq_none hl] at h2; cases h2
 show (if _ then _ else _) = _
 rw [if_pos ⟨rfl,rfl,h1,hlt⟩]; exact h2
theorem putM_out {σ:Sg} {g:Nat} {vs:List Value} {fr:Nat} {a:Addr} (h:¬ (a.block = g/\a.spot = none/\fr<=a.off/\a.off < vs.length)):(σ.putM g vs fr).M a = σ.M a:=if_neg h
theorem putM_some {σ:Sg} {g:Nat} {vs:List Value} {fr:Nat} {a:Addr} {v:Value} (h:(σ.putM g vs fr).M a = some v) :
 (a.block = g/\a.spot = none/\fr<=a.off/\vs[a.off]? = some v)\/σ.M a = some v:=by
 by_cases e:a.block = g/\a.spot = none/\fr<=a.off/\a.off < vs.length
 ·left
  have:(σ.putM g vs fr).M a = vs[a.off]?:=if_pos e; rw [this] at h; exact ⟨e.1,e.2.1,e.2.2.1,h⟩
 ·right
  rwa [putM_out e] at h
theorem HR.rowAlloc {σ:Sg} {H H':List ABlk} {w:World} (h:HR σ H w) (b0 n e sz cap:Nat) (vs:Array Value) (us:List Value) (hver:∀ m,n<=m->σ.φ b0 m = none)
 (hH:∀ b,b ≠ b0->H'[b]? = H[b]?) (hH0:H'[b0]? = some (.row e sz n)) (hlen:H.length<=H'.length) (hnd:H[b0]? ≠ some .dead)
 (hn:n<=cap) (hcap:0 < cap) (hm:cap<=maxLen) (hsz:vs.size = cap * sz) (hus:vs.toList.take (n * sz) = us) :
 ∃ σ',Ext σ H w σ' H' (w.alloc (.cells vs e))/\HR σ' H' (w.alloc (.cells vs e))/\σ'.φ b0 n = some (.slice (some ⟨w.heap.size,0,none⟩) n cap) /\
  ∀ j u,us[j]? = some u->σ'.M ⟨w.heap.size,j,none⟩ = some u:=by
 have hnz:cap ≠ 0:=by omega
 have hus':us.length = n * sz:=by
  rw [<- hus,List.length_take,Array.length_toList,hsz]; exact Nat.min_eq_left (Nat.mul_le_mul_right _ hn)
 have hvs:∀ j u,us[j]? = some u->vs[j]? = some u:=λj u hj=>by
  rw [<- hus,List.getElem?_take] at hj
  split at hj
  ·simpa using hj
  ·cases hj
 let σ1:Sg:=σ.putM w.heap.size us 0
 have hM1:∀ a v,σ.M a = some v->σ1.M a = some v:=λa v hv=>by
  have:=h.Mlt hv
  show (σ.putM w.heap.size us 0).M a = some v
  rw [putM_out (λe=>by omega)]; exact hv
 have hle:σ.le (σ1.putφ b0 n (.slice (some ⟨w.heap.size,0,none⟩) n cap)):=
  (⟨hM1,λ_ _ _ h=>h,rfl⟩:σ.le σ1).trans (Sg.putφ_le (hver n (Nat.le_refl _)))
 refine ⟨σ1.putφ b0 n (.slice (some ⟨w.heap.size,0,none⟩) n cap),⟨hle,rfl,rfl,rfl,by simp,λk hk _=>alloc_heap_old w _ hk,?_,λa ha=>.inr ?_,λb hb=>?_⟩,?_,Sg.putφ_same ..,λj u hj=>putM_in (Nat.zero_le _) hj⟩
 ·rintro k ⟨b,blk,v,hb,hl,hφ,hc⟩
  by_cases eb:b = b0
  ·subst eb
   rw [hH0] at hb; cases hb; rw [show ABlk.ver (.row e sz n) = n from rfl,Sg.putφ_same] at hφ
   cases hφ
   simp [conc,hnz] at hc; exact .inr (by omega)
  ·rw [hH b eb] at hb
   rw [Sg.putφ_other _ _ _ _ _ eb] at hφ; exact .inl ⟨b,blk,v,hb,hl,hφ,hc⟩
 ·rcases Nat.lt_or_ge a.block w.heap.size with hl | hl
  ·exact absurd (show (σ.putM w.heap.size us 0).M a = σ.M a from putM_out (λe=>by omega)) ha
  ·exact hl
 ·have hne:b ≠ b0:=λe=>hnd (e ▸ hb)
  exact ⟨by rw [hH b hne]; exact hb,λn=>Sg.putφ_other _ _ _ _ _ hne⟩
 ·refine h.turn hle b0 (.row e sz n) hH hH0 hlen (λb m hb=>Sg.putφ_other _ _ _ _ _ hb) ⟨λa v hm=>?_,h.mem.gl.mono hM1,h.mem.sz.alloc _⟩ ?_ ?_
  ·rcases putM_some (show (σ.putM w.heap.size us 0).M a = some v from hm) with ⟨h1,h2,_,h4⟩ | h1
   ·simp only [World.cell?,h1,alloc_heap_new,h2,Option.isSome_none,Bool.false_eq_true,if_false]
    exact hvs _ _ h4
   ·exact h.mem_alloc _ a v h1
  ·refine ⟨_,us,Sg.putφ_same ..,.inr ⟨w.heap.size,cap,vs,hcap,rfl,alloc_heap_new w _,hn,hm,hsz,hus⟩,λm hm=>?_,λg hg=>?_⟩
   ·rw [Sg.putφ_ver _ _ _ _ (by omega)]; exact hver m (by omega)
   ·simp [conc,hnz] at hg
    subst hg; refine ⟨λj u hj=>putM_in (Nat.zero_le _) hj,λa ha ho=>?_⟩
    show (σ.putM w.heap.size us 0).M a = none
    rw [putM_out (λe=>by omega)]
    cases hm:σ.M a with
    | none=>rfl
    | some v=>have:=h.Mlt hm; omega
  ·intro b k v g hb hk hl hv' hc
   have hlt:=(h.blk b k hk).lt hl hv' hc; refine ⟨alloc_heap_old w _ hlt,λa ha=>?_,λv0 _ hv0=>?_⟩
   ·show (σ.putM w.heap.size us 0).M a = _
    exact putM_out (λe=>by omega)
   ·rw [show ABlk.ver (.row e sz n) = n from rfl,Sg.putφ_same] at hv0
    cases hv0
    simp [conc,hnz]; omega
theorem HR.rowRoom {σ:Sg} {H:List ABlk} {w:World} (h:HR σ H w) (b e sz n m g cap:Nat) (cur:Array Value) (news:List Value) (hb:H[b]? = some (.row e sz n))
 (hφ:σ.φ b n = some (.slice (some ⟨g,0,none⟩) n cap)) (hcap:0 < cap) (hg:w.heap[g]? = some (.cells cur e (0,0))) (hnm:n + m<=cap) (hcm:cap<=maxLen) (hsz:cur.size = cap * sz)
 (hm0:0 < m) (hl:news.length = m * sz) :
 ∃ σ',Ext σ H w σ' (H.set b (.row e sz (n + m))) (w.setRow g (cur.toList.take (n * sz) ++ news ++ cur.toList.drop (n * sz + news.length)).toArray) /\
  HR σ' (H.set b (.row e sz (n + m))) (w.setRow g (cur.toList.take (n * sz) ++ news ++ cur.toList.drop (n * sz + news.length)).toArray) /\
  σ'.φ b (n + m) = some (.slice (some ⟨g,0,none⟩) (n + m) cap) /\
  ∀ j u,(cur.toList.take (n * sz) ++ news)[j]? = some u->σ'.M ⟨g,j,none⟩ = some u:=by
 have hnz:cap ≠ 0:=by omega
 obtain ⟨v0,xs,h1,h2,h3,h4⟩:=h.blk b _ hb; rw [hφ] at h1; cases h1; have hxs:cur.toList.take (n * sz) = xs:=by
  rcases h2 with ⟨_,_,a,h2⟩ | ⟨g',cap',cur',_,h2,hh,_,_,_,ht⟩
  ·injection h2 with _ _ h2; omega
  ·injection h2 with h2 _ _
   injection h2 with h2
   cases h2
   rw [hg] at hh; cases hh; exact ht
 obtain ⟨h5,h6⟩:=h4 g (by simp [conc,hnz]); have hfit:(n + m) * sz<=cap * sz:=Nat.mul_le_mul_right _ hnm; have hnl:n * sz + news.length = (n + m) * sz:=by rw [hl,Nat.add_mul]
 have htl:(cur.toList.take (n * sz)).length = n * sz:=by
  rw [List.length_take,Array.length_toList,hsz]; exact Nat.min_eq_left (by rw [Nat.add_mul] at hfit; omega)
 have hnewl:(cur.toList.take (n * sz) ++ news).length = (n + m) * sz:=by rw [List.length_append,htl,hnl]
 have hlt:b < H.length:=by
  rcases Nat.lt_or_ge b H.length with hl | hl
  ·exact hl
  ·rw [List.getElem?_eq_none hl] at hb; cases hb
 have hset:∀ b',b' ≠ b->(H.set b (.row e sz (n + m)))[b']? = H[b']?:=λb' hne=>by rw [List.getElem?_set_ne (Ne.symm hne)]
 have hset0:(H.set b (.row e sz (n + m)))[b]? = some (.row e sz (n + m)):=by simp [hlt]
 let L:=cur.toList.take (n * sz) ++ news
 let σ1:Sg:=σ.putM g L (n * sz)
 have hM1:∀ a v,σ.M a = some v->σ1.M a = some v:=λa v hv=>by
  show (σ.putM g L (n * sz)).M a = some v
  rw [putM_out (λe=>by have:=h6 a e.1 e.2.2.1; rw [this] at hv; cases hv)]; exact hv
 have hle:σ.le (σ1.putφ b (n + m) (.slice (some ⟨g,0,none⟩) (n + m) cap)):=
  (⟨hM1,λ_ _ _ h=>h,rfl⟩:σ.le σ1).trans (Sg.putφ_le (h3 _ (by omega)))
 have hLM:∀ j u,L[j]? = some u->σ1.M ⟨g,j,none⟩ = some u:=λj u hj=>by
  by_cases hjn:n * sz<=j
  ·exact putM_in hjn hj
  ·refine hM1 _ _ (h5 j u ?_)
   rw [<- hxs]; rw [List.getElem?_append_left (by rw [htl]; omega)] at hj; exact hj
 have hnew:∀ j,j < (n + m) * sz->(cur.toList.take (n * sz) ++ news ++ cur.toList.drop (n * sz + news.length))[j]? = L[j]?:=λj hj=>by
  rw [List.getElem?_append_left (by rw [hnewl]; exact hj)]
 refine ⟨σ1.putφ b (n + m) (.slice (some ⟨g,0,none⟩) (n + m) cap),⟨hle,rfl,rfl,rfl,by simp,λk hk hf=>setRow_other w g k _ (λe=>hf ?_),?_,λa ha=>.inl ?_,λb' hd=>dead_set hd hb (by simp) (λn hne=>Sg.putφ_other _ _ _ _ _ hne)⟩,?_,Sg.putφ_same ..,hLM⟩
 ·subst e; exact ⟨b,_,_,hb,rfl,hφ,by simp [conc,hnz]⟩
 ·rintro k ⟨b',blk,v,hb',hl',hφ',hc⟩
  by_cases eb:b' = b
  ·subst eb
   rw [hset0] at hb'; cases hb'; rw [show ABlk.ver (.row e sz (n + m)) = n + m from rfl,Sg.putφ_same] at hφ'
   cases hφ'
   exact .inl ⟨b',_,_,hb,rfl,hφ,by simpa [conc,hnz] using hc⟩
  ·rw [hset b' eb] at hb'
   rw [Sg.putφ_other _ _ _ _ _ eb] at hφ'; exact .inl ⟨b',blk,v,hb',hl',hφ',hc⟩
 ·by_cases e:a.block = g
  ·rw [e]; exact ⟨b,_,_,hb,rfl,hφ,by simp [conc,hnz]⟩
  ·exact absurd (show (σ.putM g L (n * sz)).M a = σ.M a from putM_out (λe'=>e e'.1)) ha
 ·refine h.turn hle b (.row e sz (n + m)) hset hset0 (by simp) (λb' k hb'=>Sg.putφ_other _ _ _ _ _ hb') ⟨λa v hm=>?_,h.mem.gl.mono hM1,h.mem.sz.to λt0 ht0 c e' f hc=>?_⟩ ?_ ?_
  rotate_left
  ·by_cases e2:t0.1 = g
   ·rw [e2] at hc ⊢
    rw [hg] at hc; cases hc; refine ⟨_,_,_,setRow_heap w g cur _ e _ hg,?_⟩; simp only [List.size_toArray,List.length_append,List.length_take,List.length_drop,Array.length_toList]; rw [List.length_take,Array.length_toList] at htl; omega
   ·exact ⟨c,e',f,by rw [setRow_other w g _ _ e2]; exact hc,rfl⟩
  rotate_right
  ·rcases putM_some (show (σ.putM g L (n * sz)).M a = some v from hm) with ⟨h7,h8,_,h10⟩ | h7
   ·have hj : a.off < (n + m) * sz := by
     rw [<- hnewl]; rcases Nat.lt_or_ge a.off L.length with hl | hl
     ·exact hl
     ·rw [List.getElem?_eq_none hl] at h10; cases h10
    simp only [World.cell?,h7,setRow_heap w g cur _ e _ hg,h8,Option.isSome_none,Bool.false_eq_true,if_false]; rw [List.getElem?_toArray,hnew _ hj]; exact h10
   ·by_cases hag:a.block = g
    ·have hlt' : a.off < n * sz := by
      rcases Nat.lt_or_ge a.off (n * sz) with hl | hl
      ·exact hl
      ·rw [h6 a hag hl] at h7; cases h7
     have hc:=h.mem a v h7; simp only [World.cell?,hag,setRow_heap w g cur _ e _ hg]; simp only [World.cell?,hag,hg] at hc
     split at hc
     ·cases hc
     ·rename_i hsp
      rw [if_neg hsp,List.getElem?_toArray,hnew _ (by rw [Nat.add_mul]; omega),List.getElem?_append_left (by rw [htl]; exact hlt'),List.getElem?_take,if_pos hlt']
      simpa using hc
    ·rw [cell_setRow_other w g _ a hag]
     exact h.mem a v h7
  ·refine ⟨_,L,Sg.putφ_same ..,.inr ⟨g,cap,_,hcap,rfl,setRow_heap w g cur _ e _ hg,hnm,hcm,?_,?_⟩,λk hk=>?_,λg' hg'=>?_⟩
   ·simp only [List.size_toArray,List.length_append,htl,List.length_drop,Array.length_toList,hsz]
    omega
   ·simp only
    rw [<- hnewl]; exact List.take_left
   ·rw [Sg.putφ_ver _ _ _ _ (by omega)]; exact h3 k (by omega)
   ·simp [conc,hnz] at hg'
    subst hg'; refine ⟨hLM,λa ha ho=>?_⟩
    show (σ.putM g L (n * sz)).M a = none
    rw [putM_out (λe=>by have:=e.2.2.2; rw [show L.length = _ from hnewl] at this; omega)]; exact h6 a ha (by rw [Nat.add_mul] at ho; omega)
  ·intro b' k v g' hne hk hl' hφ' hc
   have hgg:g' ≠ g:=λe=>hne (h.inj b' b k _ v _ g' hk hb hl' rfl hφ' hφ hc (by simp [conc,hnz,e]))
   refine ⟨setRow_other w g g' _ hgg,λa ha=>?_,λv0 _ hv0=>?_⟩
   ·show (σ.putM g L (n * sz)).M a = _
    exact putM_out (λe=>hgg (ha.symm.trans e.1))
   ·rw [show ABlk.ver (.row e sz (n + m)) = n + m from rfl,Sg.putφ_same] at hv0
    cases hv0
    simp [conc,hnz]; exact λe=>hgg e.symm
end Go.Proofs.YtofpekbidngnfaaGreatDoor
