/-
  One's own library, part 4: the model's operations turned into the small language.
-/
import Derived.Test.YtofpekbidngnfaaGreatDoorYHeap3
import Derived.DeepKeys3
import Derived.StringKeys
import Derived.Laws.MakeOwn
import Derived.Laws.BytesString
import Derived.Lib.Bytealg
import Derived.Deep.Heap
set_option linter.unusedSectionVars false
set_option linter.unusedSimpArgs false
set_option linter.unusedVariables false
namespace Go.Proofs.YtofpekbidngnfaaGreatDoor
open Go.RowKit
def szOf (P:Program) (t:TypeId):Option Nat:=(P.info? t).map (·.size)
def byOf (P:Program) (t:TypeId):Option Nat:=(P.info? t).map (·.bytes)
def agOf (P:Program) (t:TypeId):Option Bool:=(P.underlying t).map λd=>match d with
 | .struct _ | .array _ _=>true
 | _=>false
def elOf (P:Program) (t:TypeId):Option TypeId:=(P.underlying t).bind λd=>match d with
 | .slice e=>some e
 | _=>none
def zeroOf (P:Program) (t:TypeId):Option (List AV):=((P.info? t).bind (·.zero)).bind λz=>z.cells.toList.mapM cst1
def opds (l:List Operand):Option (List Opd):=l.mapM opd
def opdO:Option Operand->Option (Option Opd)
 | none=>some none
 | some x=>(opd x).map some
def partsOf (P:Program) (fs:Array Field):List (Nat × Operand)->Option (List (Nat × Nat × Opd))
 | []=>some []
 | (i,x) :: r=>match fs[i]?,opd x,partsOf P fs r with
  | some f,some y,some r'=>match szOf P f.type with
   | some n=>some ((f.offset,n,y) :: r')
   | none=>none
  | _,_,_=>none
def rowOf:Nat->List (Nat × Operand)->Option (List Opd)
 | _,[]=>some []
 | k,(i,x) :: r=>if i = k then match opd x,rowOf (k + 1) r with
  | some y,some r'=>some (y :: r')
  | _,_=>none
  else none
def isBoolT (P:Program) (t:TypeId):Bool:=match P.underlying t with
 | some .bool=>true
 | _=>false
def isStrT (P:Program) (t:TypeId):Bool:=match P.underlying t with
 | some .string=>true
 | _=>false
def isPtrT (P:Program) (t:TypeId):Bool:=match P.underlying t with
 | some (.pointer _)=>true
 | _=>false
def isIntT (P:Program) (t:TypeId):Option IntKind:=match P.underlying t with
 | some (.int k)=>some k
 | _=>none
def flatK (P:Program):Nat->TypeId->Option (List KC)
 | 0,_=>none
 | d + 1,t=>match P.underlying t with
  | some .bool=>if P.cellsOf t = 1 then some [.b] else none
  | some (.int k)=>if P.cellsOf t = 1 then some [.i k] else none
  | some .string=>if P.cellsOf t = 1 then some [.s] else none
  | some (.array n e)=>(flatK P d e).map λl=>(List.replicate n l).flatten
  | some (.struct fs)=>(fs.toList.mapM λf=>flatK P d f.type).map List.flatten
  | _=>none
def wideT (P:Program) (t:TypeId):Bool:=match P.underlying t with
 | some (.array _ _) | some (.struct _)=>true
 | _=>false
def ktOf (P:Program) (t:TypeId):Option KT:=
 if isStrT P t then some ⟨false,[.s]⟩
 else if wideT P t && P.keyType t && P.tiled (P.types.size + 1) t && decide (P.types.size + 2<=10000) && !P.eqGuardType P.depth t then (flatK P (P.types.size + 1) t).map (⟨true,·⟩)
 else none
def mapT (P:Program) (t:TypeId):Option (TypeId × TypeId):=(P.underlying t).bind λd=>match d with
 | .map k e=>some (k,e)
 | _=>none
def mapI (P:Program) (t:TypeId):Option (KT × AV):=match mapT P t with
 | some (k,e)=>match ktOf P k,((P.info? e).bind (·.zero)).bind cst1 with
  | some kt,some z=>some (kt,z)
  | _,_=>none
 | none=>none
def byteT (P:Program) (t:TypeId):Bool:=match elOf P t with
 | some e=>(match P.underlying e with | some (.int .u8)=>true | _=>false) && (szOf P e == some 1)
 | none=>false
def extIxb (P:Program) (f:FuncId):Bool:=match P.funcs[f]? with
 | some fn => fn.name == "internal/bytealg.IndexByteString" && fn.body.isNone && fn.origin == ""
 | none=>false
def partsAr (P:Program) (n sz:Nat):List (Nat × Operand)->Option (List (Nat × Nat × Opd))
 | []=>some []
 | (i,x) :: r=>match opd x,partsAr P n sz r with
  | some y,some r'=>if i < n then some ((i * sz,sz,y) :: r') else none
  | _,_=>none
def arT (P:Program) (t:TypeId):Option (Nat × TypeId):=(P.underlying t).bind λd=>match d with
 | .array n e=>some (n,e)
 | _=>none
def isNilS:Operand->Bool
 | .const (.slice none 0 0)=>true
 | _=>false
def isNilM:Operand->Bool
 | .const (.map none)=>true
 | _=>false
def isNilI:Operand->Bool
 | .const .nilIface=>true
 | _=>false
def ifaceT (P:Program) (t:TypeId):Bool:=match P.underlying t with
 | some (.interface _)=>true
 | _=>false
def bldT (P:Program) (t:TypeId):Bool:=match (P.info? t).bind (·.zero) with
 | some zv=>match zv.cells.toList with
  | [.pointer none,.slice none 0 0]=>true
  | _=>false
 | none=>false
def zeroAV (P:Program) (t:TypeId):Option AV:=((P.info? t).bind (·.zero)).bind cst
def concT (P:Program) (t:TypeId):Bool:=match P.underlying t with
 | some (.interface _)=>false
 | some _=>true
 | none=>false
def invT (P:Program) (m:String):List (TypeId × FuncId):=(List.range P.types.size).filterMap λt =>
 match P.underlying t,(P.info? t).bind λi=>i.methods.find? (·.name == m) with
 | some (.pointer _),some r=>match r.path.isEmpty,r.func with
  | true,some (f,true)=>if callOk P f then some (t,f) else none
  | _,_=>none
 | _,_=>none
def compK (P:Program) (h:Nat->Option Md) (o:Oper):Option K:=
 match o.op with
 | .move x | .assign x=>match opd x with
  | none=>none
  | some y=>match (o.dst.bind h:Option Md),elOf P o.type with
   | some .gr,some e=>(szOf P e).map λn=>.mvg e n y
   | _,_=>some (.mv y)
 | .pick c a b=>match opd c,opd a,opd b with
  | some c,some a,some b=>some (.pick c a b)
  | _,_,_=>none
 | .alloc t=>if bldT P t && (o.dst.bind h:Option Md) == some .gr then some (.alb t) else (zeroOf P t).map .al
 | .box _ x=>(opd x).map .bx
 | .build t ps=>match P.underlying t,zeroOf P t with
  | some (.struct fs),some z=>if fs.toList.all (λf=>(szOf P f.type).isSome) then (partsOf P fs ps.toList).map (.bd z) else none
  | some (.array n e),some z=>match szOf P e with
   | some sz=>(partsAr P n sz ps.toList).map (.bd z)
   | none=>none
  | _,_=>none
 | .buildSlice t n ps=>match elOf P t with
  | some e=>match szOf P e,rowOf 0 ps.toList,zeroOf P e with
   | some sz,some l,some z=>if l.length = n/\0 < sz/\z.length = sz/\n * sz<=2 ^ 24 then some (.bs ((o.dst.bind h).getD .im) e sz l) else none
   | _,_,_=>none
  | none=>none
 | .load t a=>match opd a,szOf P t,agOf P t with
  | some a,some n,some g=>if g || n == 1 then some (.ld a n g) else none
  | _,_,_=>none
 | .store t a v=>match opd a,opd v,szOf P t with
  | some a,some v,some n=>some (.st a v n)
  | _,_,_=>none
 | .nilCheck x=>(opd x).map .nc
 | .binOp op t x y0 _=>match opd x,opd y0 with
  | some x,some y=>if isBoolT P t then match op with
   | .eql=>some (.eqs false x y)
   | .neq=>some (.eqs true x y)
   | _=>none
   else if isPtrT P t then match op with
    | .eql=>some (.eqp false x y)
    | .neq=>some (.eqp true x y)
    | _=>none
   else if wideT P t then match ktOf P t,op with
    | some kt,.eql=>some (.eqg kt false x y)
    | some kt,.neq=>some (.eqg kt true x y)
    | _,_=>none
   else if (elOf P t).isSome then if isNilS y0 then match op with
    | .eql=>some (.isn false false x)
    | .neq=>some (.isn false true x)
    | _=>none
    else none
   else if (mapT P t).isSome then if isNilM y0 then match op with
    | .eql=>some (.isn true false x)
    | .neq=>some (.isn true true x)
    | _=>none
    else none
   else if ifaceT P t && isNilI y0 then match op with
    | .eql=>some (.eqi false x)
    | .neq=>some (.eqi true x)
    | _=>none
   else some (.bin op x y)
  | _,_=>none
 | .unOp op _ x=>(opd x).map (.un op)
 | .convert r t x=>match isIntT P t,opd x with
  | some k,some x=>if (P.underlying r).isSome then some (.cvi k x) else none
  | none,some x=>if byteT P r && isStrT P t then some (.b2s x) else if isStrT P r && byteT P t then some (.s2b .im 0 x) else none
  | _,_=>none
 | .fieldAddr t x f=>match P.underlying t,opd x with
  | some (.struct fs),some x=>match fs[f]? with
   | some fl=>match szOf P fl.type with
    | some (_ + 1)=>some (.fa x fl.offset)
    | _=>none
   | none=>none
  | _,_=>none
 | .field t x f=>match P.underlying t,opd x with
  | some (.struct fs),some x=>match fs[f]? with
   | some fl=>match szOf P fl.type,agOf P fl.type with
    | some n,some g=>if g || n == 1 then some (.fld x fl.offset n g) else none
    | _,_=>none
   | none=>none
  | _,_=>none
 | .indexAddr t x i=>match P.underlying t,opd x,opd i with
  | some (.slice e),some x,some i=>(szOf P e).map (.ia x i)
  | some (.array n e),some x,some i=>(szOf P e).map (.iar x i n)
  | _,_,_=>none
 | .index t x i=>match P.underlying t,opd x,opd i with
  | some .string,some x,some i=>some (.ix x i)
  | some (.array n e),some x,some i=>match szOf P e,agOf P e with
   | some 1,some false=>some (.ixv x i n)
   | _,_=>none
  | _,_,_=>none
 | .slice t x lo hi none=>match P.underlying t,opd x,opdO lo,opdO hi with
  | some .string,some x,some lo,some hi=>some (.sli true x lo hi 1)
  | some (.slice e),some x,some lo,some hi=>(szOf P e).map (.sli false x lo hi)
  | some (.pointer r),some x,some lo,some hi=>match arT P r with
   | some (n,e)=>(szOf P e).map (.sla x lo hi n)
   | none=>none
  | some (.array n e),some x,some lo,some hi=>(szOf P e).map (.sla x lo hi n)
  | _,_,_,_=>none
 | .extract x i=>(opd x).map (.ext · i)
 | .makeFunc (.func f) first caps=>if first.isEmpty then (opds caps.toList).map (.mkf f) else if caps.isEmpty then (opds first.toList).map (.mkb f) else none
 | .call c=>match c.callee with
  | .value (.func f)=>if callOk P f then (opds c.args.toList).map (.call f) else if extIxb P f then (match c.args.toList with
   | [x,y]=>match opd x,opd y with
    | some x,some y=>some (.ixb f x y)
    | _,_=>none
   | _=>none) else none
  | .value (.tmp g)=>(opds c.args.toList).map (.callv (.t g))
  | .builtin .len=>match c.argTypes.toList,c.args.toList with
   | [t],[x]=>match P.underlying t,opd x with
    | some .string,some x=>some (.len true x)
    | some (.slice _),some x=>some (.len false x)
    | some (.map _ _),some x=>some (.mlen x)
    | _,_=>none
   | _,_=>none
  | .builtin .min=>(opds c.args.toList).map .mn
  | .builtin .max=>(opds c.args.toList).map .mx
  | .builtin .append=>match c.argTypes.toList,c.args.toList with
   | [t,tx],[s,x]=>match elOf P t,opd s,opd x with
    | some e,some s,some x=>match szOf P e,byOf P e,zeroOf P e with
     | some sz,some by',some z=>if 0 < sz/\z.length = sz/\((elOf P tx).isSome || isStrT P tx) = true then some (.app ((o.dst.bind h).getD .gr) e sz by' s x) else none
     | _,_,_=>none
    | _,_,_=>none
   | _,_=>none
  | .builtin .copy=>match c.argTypes.toList,c.args.toList with
   | [t,tx],[s,x]=>match elOf P t,opd s,opd x with
    | some e,some s,some x=>match szOf P e with
     | some sz=>if 0 < sz/\((elOf P tx).isSome || isStrT P tx) = true then some (.cpy sz s x) else none
     | none=>none
    | _,_,_=>none
   | _,_=>none
  | .builtin .delete=>match c.argTypes.toList,c.args.toList with
   | [t,_],[m,k]=>match mapI P t,opd m,opd k with
    | some (kt,_),some m,some k=>some (.del kt m k)
    | _,_,_=>none
   | _,_=>none
  | .invoke r m=>match opd r,opds c.args.toList with
   | some r,some l=>some (.inv (invT P m) r l)
   | _,_=>none
  | _=>none
 | .makeSlice t n c=>match elOf P t,opd n,opd c with
  | some e,some n,some c=>match szOf P e,byOf P e,zeroOf P e with
   | some sz,some by',some z=>if 0 < sz/\z.length = sz/\0 < by' then some (.mks .hp e sz by' z n c) else none
   | _,_,_=>none
  | _,_,_=>none
 | .makeMap t none=>(mapI P t).map λp=>.mkm p.1
 | .makeMap t (some (.const (.int _ _)))=>(mapI P t).map λp=>.mkm p.1
 | .lookup t m k ok=>match mapI P t,opd m,opd k with
  | some (kt,z),some m,some k=>some (.lk kt z m k ok)
  | _,_,_=>none
 | .mapUpdate t m k v=>match mapI P t,opd m,opd k,opd v with
  | some (kt,_),some m,some k,some v=>some (.mu kt m k v)
  | _,_,_,_=>none
 | .insert t m k v=>match mapI P t,opd m,opd k,opd v with
  | some (kt,_),some m,some k,some v=>some (.mu kt m k v)
  | _,_,_,_=>none
 | .mapEntry t m k=>match mapI P t,opd m,opd k with
  | some (kt,z),some m,some k=>some (.me kt z m k)
  | _,_,_=>none
 | .entryStore _ m st v=>match opd m,opd st,opd v with
  | some m,some st,some v=>some (.mes m st v)
  | _,_,_=>none
 | .makeInterface t x=>if concT P t then (opd x).map (.mki t) else none
 | .typeAssert x _ t ok=>match opd x,zeroAV P t with
  | some x,some z=>if concT P t then some (.tas t z x ok) else none
  | _,_=>none
 | .range t x=>if (mapT P t).isSome then (opd x).map .rng else none
 | .next x false=>(opd x).map .nxt
 | .entry x=>(opd x).map .ent
 | _=>none
def compIns (P:Program) (h:Nat->Option Md) (ops:Array Oper) (o:Oper):Option Ins:=
 match compK P h o with
 | none=>none
 | some k=>match o.guard with
  | none=>some ⟨o.dst,k,none⟩
  | some (j,b)=>match ((ops[j]?).bind (·.dst):Option Nat) with
   | some g=>some ⟨o.dst,k,some (g,b)⟩
   | none=>none
def compL (P:Program) (h:Nat->Option Md) (ops:Array Oper):List Oper->Option (List Ins)
 | []=>some []
 | o :: r=>match compIns P h ops o,compL P h ops r with
  | some i,some l=>some (i :: l)
  | _,_=>none
def prOf (ops:Array Oper):List (List Nat):=ops.toList.map λo=>(o.after.toList.filter (Region.binds .any)).map (·.on)
def comp (P:Program) (h:Nat->Option Md):Code->Option AC
 | .skip=>some .skip
 | .region _ ops draw=>match compL P h ops ops.toList with
  | some l=>if draw then some (.dreg (prOf ops) l) else some (.reg l)
  | none=>some .stuck
 | .seq a b=>match comp P h a,comp P h b with
  | some a,some b=>some (.seq a b)
  | _,_=>none
 | .cond c a b=>match opd c,comp P h a,comp P h b with
  | some c,some a,some b=>some (.cond c a b)
  | _,_,_=>none
 | .block id c=>(comp P h c).map (.block id)
 | .loop c=>(comp P h c).map .loop
 | .exit id=>some (.exit id)
 | .ret=>some .ret
 | _=>none
def OpOk (P:Program) (o:Oper) (a:Act) (σ:Sg) (H:List ABlk) (w:World) (v:AV) (H':List ABlk):Prop:=
 ∃ σ' w' u,((execOp a.eval o).run P w = .ok (.value u) w'\/((execOp a.eval o).run P w = .ok .skip w'/\u = undef))/\Ext σ H w σ' H' w'/\HR σ' H' w'/\VR σ' v u
theorem OpOk.pure {P:Program} {o:Oper} {a:Act} {σ:Sg} {H:List ABlk} {w:World} {v:AV} {u:Value} (h:HR σ H w) (hr:(execOp a.eval o).run P w = .ok (.value u) w) (hv:VR σ v u):OpOk P o a σ H w v H:=
 ⟨σ,w,u,.inl hr,.refl ..,h,hv⟩
theorem VR.plain {σ:Sg} {x:Value} (h:plainV x = true):VR σ (.d (.v x)) x:=.d (.v h)
theorem VR.plain_inv {σ:Sg} {x u:Value} (h:VR σ (.d (.v x)) u):u = x/\plainV x = true:=by
 cases h with
 | d h=>cases h with
  | v h=>exact ⟨rfl,h⟩
theorem VR.esl_inv {σ:Sg} {u:Value} (h:VR σ .esl u):∃ a,u = .slice a 0 0:=by cases h; exact ⟨_,rfl⟩
theorem cst1_sound {σ:Sg} {v:Value} {x:AV} (h:cst1 v = some x):VR σ x v:=by
 unfold cst1 at h
 split at h
 ·cases h; exact .esl
 ·cases h; exact .nilp
 ·cases h; exact .mnil
 ·split at h
  ·cases h; exact .plain (by assumption)
  ·cases h
theorem mapM_cst1 {σ:Sg}:∀ {vs:List Value} {xs:List AV},vs.mapM cst1 = some xs->VRs σ xs vs
 | [],xs,h=>by simp at h; subst h; exact .nil
 | v :: vs,xs,h=>by
  simp only [List.mapM_cons,Option.bind_eq_bind,Option.bind_eq_some_iff] at h; obtain ⟨x,hx,ys,hy,h⟩:=h; simp at h; subst h; exact .cons (cst1_sound hx) (mapM_cst1 hy)
theorem cst_sound {σ:Sg} {v:Value} {x:AV} (h:cst v = some x):VR σ x v:=by
 unfold cst at h
 split at h
 ·rename_i cs
  simp only [Option.map_eq_some_iff] at h; obtain ⟨xs,hx,rfl⟩:=h; have:=mapM_cst1 (σ:=σ) hx; obtain ⟨l⟩:=cs; exact .agg this.1 this.2
 ·exact cst1_sound h
theorem get_sound {σ:Sg} {s:List AV} {a:Act} {x:Operand} {y:Opd} (h:opd x = some y) (hs:SS σ s a):VR σ (get s y) (a.eval x):=by
 cases x with
 | tmp t =>
  simp only [opd,Option.some.injEq] at h; subst h; have:=hs.tmps.getD t undef
  simpa [get,Act.eval] using this
 | const v =>
  simp only [opd,Option.map_eq_some_iff] at h; obtain ⟨x,hx,rfl⟩:=h; exact cst_sound hx
 | func f =>
  simp only [opd,Option.some.injEq] at h; subst h; exact .fn (us:=[]) rfl (λi c u h=>by simp at h)
 | global g=>simp [opd] at h
theorem opds_sound {σ:Sg} {s:List AV} {a:Act} (hs:SS σ s a):∀ {xs:List Operand} {ys:List Opd},opds xs = some ys->VRs σ (ys.map (get s)) (xs.map a.eval)
 | [],ys,h=>by simp [opds] at h; subst h; exact .nil
 | x :: xs,ys,h=>by
  simp only [opds,List.mapM_cons,Option.bind_eq_bind,Option.bind_eq_some_iff] at h; obtain ⟨y,hy,zs,hz,h⟩:=h; simp at h; subst h; exact .cons (get_sound hy hs) (opds_sound hs hz)
theorem cellsAV_sound {σ:Sg} {x:AV} {u:Value} (h:VR σ x u) (hs:shown x = true):VRs σ (cellsAV x) u.cells.toList:=by
 cases h with
 | any=>cases hs
 | ub=>exact .cons .ub .nil
 | tup=>cases hs
 | agg h1 h2=>exact ⟨h1,h2⟩
 | d h =>
  cases h with
  | v hp=>cases u <;> first | exact .cons (.plain hp) .nil | cases hp
  | nil=>exact .cons (.d .nil) .nil
  | sl u h1 h2 hm h3 h4 h5=>exact .cons (.d (.sl u h1 h2 hm h3 h4 h5)) .nil
 | nilp=>exact .cons .nilp .nil
 | mnil=>exact .cons .mnil .nil
 | ptr h=>exact .cons (.ptr h) .nil
 | ip u h1 h2=>exact .cons (.ip u h1 h2) .nil
 | esl=>exact .cons .esl .nil
 | gsl h1 hz h2 =>
  have h3:VR σ (.gsl _ _ _) _:=.gsl h1 hz h2
  cases h2 with
  | nil=>exact .cons h3 .nil
  | sl u a b c d e f=>exact .cons h3 .nil
 | hsl h1 h2 h3 h4 h5 h6=>exact .cons (.hsl h1 h2 h3 h4 h5 h6) .nil
 | hsl0 h1=>exact .cons (.hsl0 h1) .nil
 | mp h=>exact .cons (.mp h) .nil
 | fn h1 h2=>exact .cons (.fn h1 h2) .nil
 | fnb h1 h2=>exact .cons (.fnb h1 h2) .nil
 | ifc h1=>exact .cons (.ifc h1) .nil
theorem toDat_sound {σ:Sg} {x:AV} {d:Dat} {u:Value} (h:VR σ x u) (hd:toDat x = some d):VD σ.M d u:=by
 cases h <;> simp only [toDat,Option.some.injEq,reduceCtorEq] at hd
 ·subst hd; assumption
 ·subst hd; exact .nil
 ·subst hd; assumption
theorem toDats_sound {σ:Sg}:∀ {xs:List AV} {ds:List Dat} {us:List Value},VRs σ xs us->toDats xs = some ds->VDs σ.M ds us
 | [],ds,us,h,hd=>by
  simp [toDats] at hd; subst hd; have:=h.1; exact ⟨by simpa using this,λi d u h1=>by simp at h1⟩
 | x :: xs,ds,us,h,hd=>by
  obtain ⟨u,us',rfl,h1,h2⟩:=h.cons_inv; simp only [toDats] at hd
  split at hd
  ·rename_i d ds' e1 e2
   cases hd
   have ih:=toDats_sound h2 e2; refine ⟨by simp [ih.1],λi d' u' h3 h4=>?_⟩
   cases i with
   | zero=>simp at h3 h4; subst h3; subst h4; exact toDat_sound h1 e1
   | succ i=>simp at h3 h4; exact ih.2 i d' u' h3 h4
  ·cases hd
section
variable {P:Program} {o:Oper} {a:Act} {σ:Sg} {H:List ABlk} {w:World} {s:List AV}
theorem ok_mv {x:Operand} {y:Opd} (ho:o.op = .move x\/o.op = .assign x) (hy:opd x = some y) (hs:SS σ s a) (h:HR σ H w):OpOk P o a σ H w (get s y) H:=
 .pure h (u:=a.eval x) (by rcases ho with ho | ho <;> simp [execOp,ho]) (get_sound hy hs)
theorem HR.newRow0 {u:Value} (h:HR σ H w) (e sz:Nat) (hu:∃ b,u = .slice b 0 0) :
 ∃ σ',Ext σ H w σ' (H ++ [.row e sz 0]) w/\HR σ' (H ++ [.row e sz 0]) w/\VR σ' (.gsl H.length sz []) u:=by
 obtain ⟨b,rfl⟩:=hu; have hnew:σ.φ H.length 0 = none:=h.fresh _ _ (Nat.le_refl _); have hle:=Sg.putφ_le (v:=.slice b 0 0) hnew; have hc:∀ g,conc (.slice b 0 0) ≠ some g:=λg=>by cases b <;> simp [conc]
 refine ⟨σ.putφ H.length 0 (.slice b 0 0),⟨hle,rfl,rfl,rfl,Nat.le_refl _,λ_ _ _=>rfl,?_,λ_ h=>absurd rfl h,λb hb=>dead_concat hb (λn hne=>Sg.putφ_other _ _ _ _ _ hne)⟩,?_,.gsl (Sg.putφ_same ..) (λ_ h=>by cases h) .nil⟩
 ·rintro k ⟨b',blk,v,hb,hl,hφ,hc'⟩
  by_cases e':b' = H.length
  ·subst e'
   simp at hb; subst hb; rw [show ABlk.ver (.row e sz 0) = 0 from rfl,Sg.putφ_same] at hφ
   cases hφ
   exact absurd hc' (hc k)
  ·rw [getElem?_concat_ne H _ e'] at hb
   rw [Sg.putφ_other _ _ _ _ _ e'] at hφ; exact .inl ⟨b',blk,v,hb,hl,hφ,hc'⟩
 ·refine h.turn hle H.length (.row e sz 0) (fun b hb => getElem?_concat_ne H _ hb) (by simp) (by simp) (fun b n hb => Sg.putφ_other _ _ _ _ _ hb) h.mem
   ⟨_,[],Sg.putφ_same ..,.inl ⟨rfl,rfl,b,rfl⟩,λm hm=>?_,λg hg=>absurd hg (hc g)⟩ λb' k v g hb hk hl hv hcv=>⟨rfl,λ_ _=>rfl,λv0 _ hv0=>?_⟩
  ·rw [Sg.putφ_ver _ _ _ _ (by omega)]; exact h.fresh _ _ (Nat.le_refl _)
  ·rw [show ABlk.ver (.row e sz 0) = 0 from rfl,Sg.putφ_same] at hv0
   cases hv0
   exact hc g
theorem ok_box {t:TypeId} {x:Operand} {y:Opd} (ho:o.op = .box t x) (hy:opd x = some y) (hs:SS σ s a) (h:HR σ H w) (hsh:shown (get s y) = true) :
 OpOk P o a σ H w (.ptr H.length 0) (H ++ [.cells (cellsAV (get s y))]):=by
 obtain ⟨σ',h1,h2,h3,_⟩:=h.alloc t (cellsAV_sound (get_sound hy hs) hsh); refine ⟨σ',_,_,.inl ?_,h1,h2,h3⟩; simp [execOp,ho,Instr.box,newVar,newRow]
theorem zeroOf_spec {t:TypeId} {z:List AV} (h:zeroOf P t = some z):∃ i zv,P.info? t = some i/\i.zero = some zv/\∀ σ,VRs σ z zv.cells.toList:=by
 unfold zeroOf at h
 simp only [Option.bind_eq_some_iff] at h; obtain ⟨zv,⟨i,hi,hz⟩,hm⟩:=h; exact ⟨i,zv,hi,hz,λσ=>mapM_cst1 hm⟩
theorem run_zeroValue {t:TypeId} {i:TypeInfo} {zv:Value} (h:P.info? t = some i) (hz:i.zero = some zv) (w:World):(zeroValue t).run P w = .ok zv w:=by
 simp [zeroValue,typeInfo,h,hz]
theorem ok_alloc {t:TypeId} {z:List AV} (ho:o.op = .alloc t) (hz:zeroOf P t = some z) (h:HR σ H w) :
 OpOk P o a σ H w (.ptr H.length 0) (H ++ [.cells z]):=by
 obtain ⟨i,zv,hi,hzv,hv⟩:=zeroOf_spec hz; obtain ⟨σ',h1,h2,h3,_⟩:=h.alloc t (hv σ); refine ⟨σ',_,_,.inl ?_,h1,h2,h3⟩; simp [execOp,ho,Instr.alloc,run_zeroValue hi hzv,newVar,newRow]
theorem ok_alb {t:TypeId} (ho:o.op = .alloc t) (hz:bldT P t = true) (h:HR σ H w) :
 OpOk P o a σ H w (.ptr H.length 0) (H ++ [.bld t]):=by
 obtain ⟨i,zv,hi,hzv,hzc⟩:∃ i zv,P.info? t = some i/\i.zero = some zv/\zv.cells = #[.pointer none,.slice none 0 0]:=by
  unfold bldT at hz
  split at hz
  ·rename_i zv e
   obtain ⟨i,hi,hzv⟩:=Option.bind_eq_some_iff.1 e; refine ⟨i,zv,hi,hzv,?_⟩
   split at hz
   ·rename_i e2
    exact Array.toList_inj.1 e2
   ·cases hz
  ·cases hz
 obtain ⟨σ',h1,h2,h3,h4,h5⟩:=h.alloc t (cs:=[.nilp,.esl]) (vs:=zv.cells) (by rw [hzc]; exact VRs.cons .nilp (VRs.cons .esl VRs.nil)); have hb:(H ++ [ABlk.cells [.nilp,.esl]])[H.length]? = some (.cells [.nilp,.esl]):=by simp
 have hs:(H ++ [ABlk.cells [.nilp,.esl]]).set H.length (.bld t) = H ++ [.bld t]:=by simp
 rw [hzc] at h1 h2 h5; have h6:=h2.retag hb h4 h5 (t:=t) (alloc_heap_new ..); rw [hs] at h6; refine ⟨σ',_,_,.inl ?_,⟨h1.le,h1.os,h1.tape,h1.output,h1.size,h1.frame,λk hk=>h1.foot k ?_,h1.new,λb hb=>?_⟩,h6,h3⟩
 ·simp [execOp,ho,Instr.alloc,run_zeroValue hi hzv,newVar,newRow,hzc]
 ·rw [<- hs] at hk
  exact (foot_retag hb).1 hk
 ·obtain ⟨e1,e2⟩:=h1.dead b hb
  have hlt:b < H.length:=(List.getElem?_eq_some_iff.1 hb).1; exact ⟨by rw [List.getElem?_append_left hlt]; exact hb,e2⟩
theorem loadA_sound {x:AV} {u:Value} {n:Nat} {cs:List AV} (h:HR σ H w) (hx:VR σ x u) (hl:loadA H x n = some cs) :
 ∃ ad us,u = .pointer (some ad)/\(loadCells ad n).run P w = .ok us.toArray w/\VRs σ cs us/\us.length = n/\(n = 1->∃ c,us = [c]/\w.cell? ad = some c):=by
 have fin:∀ (ad:Addr) (us:List Value),us.length = n->(∀ j v,us[j]? = some v->w.cell? (ad.add j) = some v)->(loadCells ad n).run P w = .ok us.toArray w/\(n = 1->∃ c,us = [c]/\w.cell? ad = some c):=by
  intro ad us hn hc
  refine ⟨by rw [<- hn]; exact run_loadCells_list w ad us hc,λh1=>?_⟩
  match us,hn,h1 with
  | [c],_,_=>exact ⟨c,rfl,by simpa [Addr.add] using hc 0 c rfl⟩
  | [],hn,h1=>simp at hn; omega
  | _ :: _ :: _,hn,h1=>simp at hn; omega
 unfold loadA at hl
 split at hl
 ·rename_i b off
  split at hl
  ·rename_i cs' hb
   split at hl
   ·rename_i hle
    cases hl
    cases hx with
    | ptr hφ =>
     rename_i g
     obtain ⟨vs,t,h1,h2,h3,h4⟩:=h.cellsAt hb hφ; have hlen:=h3.1; rw [List.length_take] at hlen; have hlen':((vs.toList.drop off).take n).length = n:=by rw [List.length_take,List.length_drop]; omega
     obtain ⟨f1,f2⟩:=fin ⟨g,off,none⟩ ((vs.toList.drop off).take n) hlen' (λj v hj=>by
      rw [List.getElem?_take] at hj
      split at hj
      ·rw [List.getElem?_drop] at hj
       rw [addr_lit]; simp only [World.cell?,h2]
       simpa using hj
      ·cases hj)
     have h3':=(h3.drop off).take n; have hmin:min n (cs'.length - off) = n:=by omega
     rw [List.drop_take,List.take_take,hmin] at h3'; exact ⟨_,_,rfl,f1,h3',hlen',f2⟩
   ·cases hl
  ·cases hl
 ·rename_i ds
  split at hl
  ·rename_i hle
   cases hl
   cases hx with
   | ip u h1 h2 =>
    rename_i ad
    have hlen':((List.range n).map u).length = n:=by simp
    have hd:∀ j,j < n->∃ d,ds[j]? = some d:=λj hj=>⟨ds[j]'(by omega),gEe (by omega)⟩
    obtain ⟨f1,f2⟩:=fin ad ((List.range n).map u) hlen' (λj v hj=>by
     rw [List.getElem?_map,Option.map_eq_some_iff] at hj; obtain ⟨k,hk,rfl⟩:=hj; obtain ⟨hlt,hk2⟩:=List.getElem?_eq_some_iff.1 hk; simp at hlt hk2; subst hk2; obtain ⟨d,hd⟩:=hd j hlt; exact h.mem _ _ (h1 j d hd))
    refine ⟨_,_,rfl,f1,⟨by simp; omega,λi c v hi hv=>?_⟩,hlen',f2⟩; rw [List.getElem?_map,Option.map_eq_some_iff] at hi hv; obtain ⟨d,hd',rfl⟩:=hi; obtain ⟨k,hk,rfl⟩:=hv; obtain ⟨hlt,hk2⟩:=List.getElem?_eq_some_iff.1 hk; simp at hlt hk2; subst hk2; rw [List.getElem?_take,if_pos hlt] at hd'; exact .d (h2 i d hd')
  ·cases hl
 ·cases hl
theorem szOf_run {t:TypeId} {n:Nat} (h:szOf P t = some n) (w:World):(sizeOf t).run P w = .ok n w:=by
 unfold szOf at h
 simp only [Option.map_eq_some_iff] at h; obtain ⟨i,hi,rfl⟩:=h; simp [sizeOf,typeInfo,hi]
theorem agOf_run {t:TypeId} {g:Bool} (h:agOf P t = some g) (w:World):(isAgg t).run P w = .ok g w:=by
 unfold agOf at h
 simp only [Option.map_eq_some_iff] at h; obtain ⟨d,hd,rfl⟩:=h; simp only [isAgg,Sem.run_bind,run_underlying hd,Result.andThen_ok]
 cases d <;> rfl
theorem ok_load {t:TypeId} {x:Operand} {y:Opd} {n:Nat} {g:Bool} {cs:List AV} {v:AV} (ho:o.op = .load t x) (hy:opd x = some y) (hn:szOf P t = some n) (hg:agOf P t = some g)
 (hg1:(g || n == 1) = true) (hs:SS σ s a) (h:HR σ H w) (hl:loadA H (get s y) n = some cs) (hv:outA g cs = some v):OpOk P o a σ H w v H:=by
 obtain ⟨ad,us,hu,hr,hvs,hlen,h1⟩:=loadA_sound (P:=P) h (get_sound hy hs) hl
 cases g with
 | true =>
  simp [outA] at hv; subst hv; refine .pure h (u:=.agg us.toArray) ?_ (.agg hvs.1 hvs.2); simp [execOp,ho,Instr.loadAt,hu,Instr.sureAddr,loadVar,agOf_run hg,szOf_run hn,hr]
 | false =>
  simp at hg1; subst hg1; obtain ⟨c,rfl,hc⟩:=h1 rfl; have:cs.length = 1:=by simpa using hvs.1
  match cs,this,hv,hvs with
  | [c'],_,hv,hvs =>
   simp [outA] at hv; subst hv; refine .pure h (u:=c) ?_ (hvs.2 0 c' c rfl rfl); simp [execOp,ho,Instr.loadAt,hu,Instr.sureAddr,loadVar,agOf_run hg,hc]
theorem splice_length {cs vs:List AV} {off:Nat} (h:off + vs.length<=cs.length):(splice cs off vs).length = cs.length:=by
 simp [splice]; omega
theorem splice_sound {cs vs:List AV} {L us:List Value} {off:Nat} (h3:VRs σ cs (L.take cs.length)) (hvs:VRs σ vs us) (hfit:off + vs.length<=cs.length) (hcl:cs.length<=L.length) :
 VRs σ (splice cs off vs) ((L.take off ++ us ++ L.drop (off + us.length)).take (splice cs off vs).length):=by
 have hvl:=hvs.1; have:=((h3.take off).append hvs).append (h3.drop (off + vs.length)); rw [splice_length hfit]; have e:(L.take off ++ us ++ L.drop (off + us.length)).take cs.length = (L.take cs.length).take off ++ us ++ (L.take cs.length).drop (off + vs.length):=by
  rw [<- hvl,List.drop_take,List.take_take,Nat.min_eq_left (by omega)]; have hl:(L.take off ++ us).length = off + vs.length:=by rw [List.length_append,List.length_take,<- hvl]; omega
  rw [List.take_append,hl,List.take_of_length_le (by omega)]
 rw [e]; exact this
theorem ok_store {t:TypeId} {x v:Operand} {y z:Opd} {n:Nat} {H':List ABlk} (ho:o.op = .store t x v) (hy:opd x = some y) (hz:opd v = some z) (hn:szOf P t = some n)
 (hs:SS σ s a) (h:HR σ H w) (hsh:shown (get s z) = true) (hlen:(cellsAV (get s z)).length = n) (hst:storeA H (get s y) (cellsAV (get s z)) = some H') :
 OpOk P o a σ H w (.tup []) H':=by
 have hx:=get_sound hy hs; have hvs:=cellsAV_sound (get_sound hz hs) hsh
 generalize hX:get s y = X at hx hst
 generalize hC:cellsAV (get s z) = vs at hvs hst hlen
 unfold storeA at hst
 split at hst
 ·rename_i b off
  split at hst
  ·rename_i cs hb
   split at hst
   ·rename_i hc
    obtain ⟨hfit,hone⟩:=hc
    cases hst
    generalize hp:a.eval x = p at hx
    cases hx with
    | ptr hφ =>
     rename_i g
     obtain ⟨cur,t',h1,h2,h3,h4⟩:=h.setCells (cs':=splice cs off vs) hb hφ; have hcl:=h3.1; have hvl:=hvs.1; have hone':∀ u ∈ (a.eval v).cells.toList,u.oneCell' = true:=λu hu=>by
      obtain ⟨i,hi,rfl⟩:=List.mem_iff_getElem.1 hu; have hi':i < vs.length:=by rw [hvl]; exact hi
      exact all_one (hvs.2 i _ _ (gEe hi') (gEe hi)) (List.all_eq_true.1 hone _ (List.getElem_mem hi'))
     have hcl':cs.length<=cur.toList.length:=by rw [List.length_take] at hcl; omega
     have hr:=run_storeCells_at (P:=P) g off t' (a.eval v).cells.toList 0 cur w h2 (by simp at hvl hcl' ⊢; omega) hone'; obtain ⟨e1,e2⟩:=h4 (cur.toList.take off ++ (a.eval v).cells.toList ++ cur.toList.drop (off + (a.eval v).cells.toList.length)).toArray (by
      simp at hvl hcl' ⊢; omega) (splice_sound h3 hvs hfit hcl')
     refine ⟨σ,_,undef,.inr ⟨?_,rfl⟩,e1,e2,.tup (us:=[]) rfl (λi c u hi=>by simp at hi)⟩; have hsize:(a.eval v).cells.size = n:=by rw [<- hlen,hvl]; simp
     simp only [Nat.add_zero] at hr; simp [execOp,ho,Instr.storeAt,hp,Instr.sureAddr,storeVar,szOf_run hn,hsize,hr]
   ·cases hst
  ·cases hst
 ·cases hst
end
section
variable {P:Program} {o:Oper} {a:Act} {σ:Sg} {H:List ABlk} {w:World} {s:List AV}
theorem VR.bool_inv {t:Bool} {u:Value} (h:VR σ (.d (.v (.bool t))) u):u = .bool t:=h.plain_inv.1
theorem VR.int_inv {k:IntKind} {n:Int} {u:Value} (h:VR σ (.d (.v (.int k n))) u):u = .int k n:=h.plain_inv.1
theorem VR.str_inv {b:ByteArray} {u:Value} (h:VR σ (.d (.v (.string b))) u):u = .string b:=h.plain_inv.1
theorem VR.mk_bool (t:Bool):VR σ (.d (.v (.bool t))) (.bool t):=.plain rfl
theorem VR.mk_int (k:IntKind) (n:Int):VR σ (.d (.v (.int k n))) (.int k n):=.plain rfl
theorem VR.mk_str (b:ByteArray):VR σ (.d (.v (.string b))) (.string b):=.plain rfl
theorem ok_pick {c x y:Operand} {c' x' y':Opd} {t:Bool} (ho:o.op = .pick c x y) (hc:opd c = some c') (hx:opd x = some x') (hy:opd y = some y') (hs:SS σ s a) (h:HR σ H w)
 (ht:get s c' = .d (.v (.bool t))):OpOk P o a σ H w (bif t then get s x' else get s y') H:=by
 have h1:=get_sound hc hs; rw [ht] at h1; have hc1:=h1.bool_inv; refine .pure h (u:=if t then a.eval x else a.eval y) ?_ ?_
 ·cases t <;> simp [execOp,ho,hc1,asBool]
 ·cases t
  ·exact get_sound hy hs
  ·exact get_sound hx hs
theorem ok_nc {x:Operand} {x':Opd} (ho:o.op = .nilCheck x) (hx:opd x = some x') (hs:SS σ s a) (h:HR σ H w)
 (ht:(∃ b n,get s x' = .ptr b n)\/(∃ cs,get s x' = .ip cs)\/∃ f cs,get s x' = .fn f cs):OpOk P o a σ H w (get s x') H:=by
 have h1:=get_sound hx hs; refine .pure h (u:=a.eval x) ?_ h1; rcases ht with ⟨b,n,ht⟩ | ⟨cs,ht⟩ | ⟨f,cs,ht⟩ <;> rw [ht] at h1 <;> generalize he:a.eval x = u at h1 <;> cases h1 <;> simp [execOp,ho,he]
theorem str_eq (a b:ByteArray):(a.toList == b.toList) = decide (a = b):=by
 rw [ByteArray.toList_eq,ByteArray.toList_eq]
 by_cases h:a = b
 ·subst h; simp
 ·rw [decide_eq_false h]
  cases hb:(a.data.toList == b.data.toList) with
  | false=>rfl
  | true =>
   have:=eq_of_beq hb; exact absurd (ByteArray.ext (Array.ext' this)) h
theorem ok_bin {op:BinOp} {t t':TypeId} {x y:Operand} {x' y':Opd} {v:AV} (ho:o.op = .binOp op t x y t') (hx:opd x = some x') (hy:opd y = some y') (hs:SS σ s a) (h:HR σ H w)
 (hv:binA op (get s x') (get s y') = some v):OpOk P o a σ H w v H:=by
 have h1:=get_sound hx hs; have h2:=get_sound hy hs
 unfold binA at hv
 split at hv
 ·rename_i k m k' n e1 e2
  rw [e1] at h1; rw [e2] at h2; have q1:=h1.int_inv; have q2:=h2.int_inv
  split at hv
  ·split at hv
   ·cases hv
   ·rename_i hn
    cases hv
    refine .pure h ?_ (VR.mk_int _ _); simp [execOp,ho,q1,q2,eqGuard,binOp,Op.shift,hn]
  ·split at hv
   ·cases hv
   ·rename_i hn
    cases hv
    refine .pure h ?_ (VR.mk_int _ _); rw [<- Int.fdiv_eq_ediv_of_nonneg _ (Int.pow_nonneg (by decide))]; simp [execOp,ho,q1,q2,eqGuard,binOp,Op.shift,hn]
  ·split at hv
   ·rename_i hk
    subst hk
    split at hv <;> first | (cases hv; done) | skip
    all_goals first
     | (cases hv
        refine .pure h ?_ (VR.mk_int _ _); simp [execOp,ho,q1,q2,eqGuard,binOp,Op.intArith,Op.intBits]
        done)
     | (cases hv
        refine .pure h ?_ (VR.mk_bool _); simp [execOp,ho,q1,q2,eqGuard,binOp,Op.intCmp]
        done)
     | (split at hv
        ·cases hv
        ·rename_i hn
         cases hv
         refine .pure h ?_ (VR.mk_int _ _); simp [execOp,ho,q1,q2,eqGuard,binOp,Op.intDiv,hn])
   ·cases hv
 ·rename_i b c e1 e2
  rw [e1] at h1; rw [e2] at h2; have q1:=h1.str_inv; have q2:=h2.str_inv
  split at hv
  ·cases hv
   refine .pure h ?_ (VR.mk_bool _); rw [<- str_eq]; simp [execOp,ho,q1,q2,eqGuard,binOp,Op.stringOp]
  ·cases hv
   refine .pure h ?_ (VR.mk_bool _); rw [<- str_eq]; simp [execOp,ho,q1,q2,eqGuard,binOp,Op.stringOp]
  ·split at hv
   ·cases hv
   ·rename_i hn
    cases hv
    refine .pure h ?_ (VR.mk_str _); simp [execOp,ho,q1,q2,eqGuard,binOp,Op.stringOp] at hn ⊢; omega
  ·cases hv
 ·cases hv
end
section
variable {P:Program} {o:Oper} {a:Act} {σ:Sg} {H:List ABlk} {w:World} {s:List AV}
theorem isBoolT_spec {t:TypeId} (h:isBoolT P t = true):P.underlying t = some .bool:=by
 unfold isBoolT at h; split at h
 ·assumption
 ·cases h
theorem isPtrT_spec {t:TypeId} (h:isPtrT P t = true):∃ e,P.underlying t = some (.pointer e):=by
 unfold isPtrT at h; split at h
 ·exact ⟨_,by assumption⟩
 ·cases h
theorem isIntT_spec {t:TypeId} {k:IntKind} (h:isIntT P t = some k):P.underlying t = some (.int k):=by
 unfold isIntT at h; split at h
 ·cases h; assumption
 ·cases h
theorem run_equal_bool {t:TypeId} (ht:P.underlying t = some .bool) (x y:Bool) (w:World):(Op.equal t (.bool x) (.bool y)).run P w = .ok (x == y) w:=by
 have key:∀ d:Nat,(Op.equalIn (d + 1) t (.bool x) (.bool y)).run P w = .ok (x == y) w:=λd=>by simp [Op.equalIn,run_underlying ht]
 exact key 9999
theorem run_equal_ptr {t e:TypeId} (ht:P.underlying t = some (.pointer e)) (x y:Option Addr) (hxy:x = none\/y = none) (w:World):(Op.equal t (.pointer x) (.pointer y)).run P w = .ok (x.isNone && y.isNone) w:=by
 have key:∀ d:Nat,(Op.equalIn (d + 1) t (.pointer x) (.pointer y)).run P w = .ok (x.isNone && y.isNone) w:=λd=>by
  rcases hxy with rfl | rfl
  ·simp [Op.equalIn,run_underlying ht]
  ·cases x <;> simp [Op.equalIn,run_underlying ht]
 exact key 9999
theorem ok_eqs {neg:Bool} {t t':TypeId} {x y:Operand} {x' y':Opd} {v:AV} (ho:o.op = .binOp (if neg then .neq else .eql) t x y t') (ht:P.underlying t = some .bool) (hx:opd x = some x') (hy:opd y = some y') (hs:SS σ s a) (h:HR σ H w)
 (hv:boolsA (if neg then .neq else .eql) (get s x') (get s y') = some v):OpOk P o a σ H w v H:=by
 have h1:=get_sound hx hs; have h2:=get_sound hy hs
 unfold boolsA at hv
 split at hv
 ·rename_i b c e1 e2
  rw [e1] at h1; rw [e2] at h2; have q1:=h1.bool_inv; have q2:=h2.bool_inv
  cases neg <;> simp only [if_true,Bool.false_eq_true,if_false] at hv ho <;> cases hv <;> refine .pure h ?_ (VR.mk_bool _) <;>
   simp [execOp,ho,q1,q2,eqGuard,binOp,run_equal_bool ht]
 ·cases hv
theorem ok_eqp {neg:Bool} {t t':TypeId} {x y:Operand} {x' y':Opd} {v:AV} (ho:o.op = .binOp (if neg then .neq else .eql) t x y t') (ht:∃ e,P.underlying t = some (.pointer e)) (hx:opd x = some x') (hy:opd y = some y') (hs:SS σ s a) (h:HR σ H w)
 (hv:ptrsA neg (get s x') (get s y') = some v):OpOk P o a σ H w v H:=by
 obtain ⟨e,ht⟩:=ht; have h1:=get_sound hx hs; have h2:=get_sound hy hs
 unfold ptrsA at hv
 generalize hp:a.eval x = u at h1
 generalize hq:a.eval y = u' at h2
 split at hv
 all_goals first
  | (rename_i e1 e2
     rw [e1] at h1; rw [e2] at h2
     cases h1; cases h2; cases hv
     refine .pure h ?_ (VR.mk_bool _)
     cases neg <;> simp only [if_true,Bool.false_eq_true,if_false] at ho <;> simp [execOp,ho,hp,hq,eqGuard,binOp,run_equal_ptr ht])
  | cases hv
theorem ok_un {op:UnOp} {t:TypeId} {x:Operand} {x':Opd} {v:AV} (ho:o.op = .unOp op t x) (hx:opd x = some x') (hs:SS σ s a) (h:HR σ H w)
 (hv:unA op (get s x') = some v):OpOk P o a σ H w v H:=by
 have h1:=get_sound hx hs
 unfold unA at hv
 split at hv
 ·rename_i b e1
  rw [e1] at h1
  cases hv
  refine .pure h ?_ (VR.mk_bool _); simp [execOp,ho,h1.bool_inv,Op.unary]
 ·rename_i k n e1
  rw [e1] at h1
  cases hv
  refine .pure h ?_ (VR.mk_int _ _); simp [execOp,ho,h1.int_inv,Op.unary,Op.intArith]
 ·cases hv
theorem ok_cvi {r t:TypeId} {x:Operand} {x':Opd} {k k':IntKind} {n:Int} (ho:o.op = .convert r t x) (hr:(P.underlying r).isSome = true) (ht:P.underlying t = some (.int k)) (hx:opd x = some x') (hs:SS σ s a) (h:HR σ H w)
 (hv:get s x' = .d (.v (.int k' n))):OpOk P o a σ H w (.d (.v (.int k (k.wrap n)))) H:=by
 have h1:=get_sound hx hs; rw [hv] at h1; obtain ⟨d,hd⟩:=Option.isSome_iff_exists.1 hr; refine .pure h ?_ (VR.mk_int _ _); simp [execOp,ho,h1.int_inv,convert,run_underlying hd,run_underlying ht,Conv.intToInt]
theorem addr_add_add (a:Addr) (i j:Nat):(a.add i).add j = a.add (i + j):=by
 unfold Addr.add
 by_cases hi:i = 0 <;> by_cases hj:j = 0 <;> simp [hi,hj,Nat.add_assoc]
theorem faA_sound {x v:AV} {off:Nat} {ad:Value} (h:VR σ x ad) (hv:faA x off = some v):∃ p,ad = .pointer (some p)/\VR σ v (.pointer (some (p.add off))):=by
 unfold faA at hv
 split at hv
 ·cases hv
  cases h with
  | ptr hφ=>exact ⟨_,rfl,by rw [addr_lit]; exact .ptr hφ⟩
 ·cases hv
  cases h with
  | ip u h1 h2 =>
   refine ⟨_,rfl,.ip (λj=>u (off + j)) (λj d hj=>?_) (λj d hj=>?_)⟩
   ·rw [List.getElem?_drop] at hj
    rw [addr_add_add]; exact h1 _ d hj
   ·rw [List.getElem?_drop] at hj
    exact h2 _ d hj
 ·cases hv
theorem ok_fa {t:TypeId} {x:Operand} {x':Opd} {f:Nat} {fs:Array Field} {fl:Field} {n:Nat} {v:AV} (ho:o.op = .fieldAddr t x f) (ht:P.underlying t = some (.struct fs)) (hf:fs[f]? = some fl) (hn:szOf P fl.type = some (n + 1))
 (hx:opd x = some x') (hs:SS σ s a) (h:HR σ H w) (hv:faA (get s x') fl.offset = some v):OpOk P o a σ H w v H:=by
 obtain ⟨p,hp,hr⟩:=faA_sound (get_sound hx hs) hv; refine .pure h ?_ hr; simp [execOp,ho,Instr.fieldAt,run_underlying ht,hf,hp,Instr.sureAddr,fieldPlace,szOf_run hn]
theorem outA_sound {g:Bool} {cs:List AV} {us:List Value} {v:AV} (h:VRs σ cs us) (hv:outA g cs = some v):(g = true->VR σ v (.agg us.toArray))/\(g = false->∃ u,us = [u]/\VR σ v u):=by
 cases g with
 | true=>simp [outA] at hv; subst hv; exact ⟨λ_=>.agg h.1 h.2,λh=>by cases h⟩
 | false =>
  refine ⟨λh=>(by cases h),λ_=>?_⟩
  unfold outA at hv
  simp only [Bool.false_eq_true,if_false] at hv
  split at hv
  ·cases hv
   obtain ⟨u,us',rfl,h1,h2⟩:=h.cons_inv; have hl:=h2.1
   match us',hl with
   | [],_=>exact ⟨u,rfl,h1⟩
  ·cases hv
theorem ok_fld {t:TypeId} {x:Operand} {x':Opd} {f:Nat} {fs:Array Field} {fl:Field} {n:Nat} {g:Bool} {cs:List AV} {v:AV} (ho:o.op = .field t x f) (ht:P.underlying t = some (.struct fs)) (hf:fs[f]? = some fl) (hn:szOf P fl.type = some n) (hg:agOf P fl.type = some g)
 (hx:opd x = some x') (hs:SS σ s a) (h:HR σ H w) (hc:get s x' = .agg cs) (_hle:fl.offset + n<=cs.length) (hv:outA g ((cs.drop fl.offset).take n) = some v):OpOk P o a σ H w v H:=by
 have h1:=get_sound hx hs; rw [hc] at h1
 generalize hp:a.eval x = u at h1
 cases h1 with
 | agg h2 h3 =>
  rename_i us
  have hvs:VRs σ ((cs.drop fl.offset).take n) ((us.drop fl.offset).take n):=(VRs.drop ⟨h2,h3⟩ _).take _; obtain ⟨q1,q2⟩:=outA_sound hvs hv
  cases g with
  | true =>
   refine .pure h ?_ (q1 rfl); simp [execOp,ho,Instr.field,run_underlying ht,hf,hp,asAgg,part,agOf_run hg,szOf_run hn]
  | false =>
   obtain ⟨u,hu,hr⟩:=q2 rfl; refine .pure h ?_ hr; have hu':us[fl.offset]? = some u:=by
    have:((us.drop fl.offset).take n)[0]? = some u:=by rw [hu]; rfl
    rw [List.getElem?_take] at this
    split at this
    ·simpa using this
    ·cases this
   simp [execOp,ho,Instr.field,run_underlying ht,hf,hp,asAgg,part,agOf_run hg,hu']
theorem run_indexAt_slice {t e:TypeId} {sz:Nat} (ht:P.underlying t = some (.slice e)) (hz:szOf P e = some sz) (ad:Addr) (n c:Nat) (k:IntKind) (i:Int) (h0:0<=i) (h1:i < n) (w:World) :
 (Instr.indexAt t (.slice (some ad) n c) (.int k i)).run P w = .ok (.pointer (some (ad.add (i.toNat * sz)))) w:=by
 have h2:0<=i/\i < (n:Int):=⟨h0,h1⟩; simp [Instr.indexAt,asIntOf,run_underlying ht,h2,szOf_run hz]
theorem ip_of_sl {es:List (List Dat)} {u:Value} {i sz:Nat} (h:VD σ.M (.sl es) u) (hi:i < es.length) (hsz:(es.getD i []).length = sz) :
 ∃ ad c,u = .slice (some ad) es.length c/\VR σ (.ip (es.getD i [])) (.pointer (some (ad.add (i * sz)))):=by
 cases h with
 | nil=>simp at hi
 | sl uu h1 h2 hm h3 h4 h5 =>
  rename_i ad c sz'
  have hg:es[i]? = some (es.getD i []):=by simp [gEe hi]
  have hsz':sz' = sz:=by rw [<- hsz]; exact (h3 _ (List.mem_of_getElem? hg)).symm
  subst hsz'; refine ⟨ad,c,rfl,.ip (λj=>uu i j) (λj d hj=>?_) (λj d hj=>h5 i _ j d hg hj)⟩; rw [addr_add_add]; exact h4 i _ j d hg hj
theorem ok_ia {t e:TypeId} {x y:Operand} {x' y':Opd} {sz:Nat} {k:IntKind} {n:Int} {v:AV} (ho:o.op = .indexAddr t x y) (ht:P.underlying t = some (.slice e)) (hz:szOf P e = some sz) (hx:opd x = some x') (hy:opd y = some y')
 (hs:SS σ s a) (h:HR σ H w) (hn:get s y' = .d (.v (.int k n))) (hv:iaA (get s x') n sz = some v):OpOk P o a σ H w v H:=by
 have h1:=get_sound hx hs; have h2:=get_sound hy hs; rw [hn] at h2; have q2:=h2.int_inv; have fin:∀ (u:Value) (es:List (List Dat)),a.eval x = u->VD σ.M (.sl es) u->0<=n/\n < es.length/\(es.getD n.toNat []).length = sz->OpOk P o a σ H w (.ip (es.getD n.toNat [])) H:=λu es hu hd ⟨c1,c2,c3⟩=>by
  obtain ⟨ad,c,rfl,hr⟩:=ip_of_sl (σ:=σ) hd (i:=n.toNat) (by omega) c3; refine .pure h ?_ hr; simp [execOp,ho,hu,q2,run_indexAt_slice ht hz ad _ c k n c1 c2]
 unfold iaA at hv
 generalize hp:a.eval x = u at h1
 split at hv
 ·rename_i es e1
  rw [e1] at h1
  split at hv
  ·rename_i hc
   cases hv
   cases h1 with
   | d hd=>exact fin u es hp hd hc
  ·cases hv
 ·rename_i b sz' es e1
  rw [e1] at h1
  split at hv
  ·rename_i hc
   obtain ⟨c1,c2,rfl⟩:=hc
   cases hv
   cases h1 with
   | gsl _ hz hd=>exact fin u es hp hd ⟨c1,c2,hz _ (by
    have hlt:n.toNat < es.length:=by omega
    simp only [gDd,gEe hlt,Option.getD_some]; exact List.getElem_mem hlt)⟩
  ·cases hv
 ·rename_i b off m cap sz' e1
  rw [e1] at h1
  split at hv
  ·rename_i hc
   obtain ⟨c1,c2,rfl⟩:=hc
   cases hv
   cases h1 with
   | @hsl _ _ _ _ _ cap' _ _ hφ hle =>
    refine .pure h ?_ (VR.ptr hφ); simp [execOp,ho,hp,q2,run_indexAt_slice ht hz _ _ cap' k n c1 c2,addr_lit]
   | hsl0 _=>simp at c2; omega
  ·cases hv
 ·cases hv
theorem ok_iar {t e:TypeId} {x y:Operand} {x' y':Opd} {sz len:Nat} {k:IntKind} {n:Int} {v:AV} (ho:o.op = .indexAddr t x y) (ht:P.underlying t = some (.array len e)) (hz:szOf P e = some sz) (hx:opd x = some x') (hy:opd y = some y')
 (hs:SS σ s a) (h:HR σ H w) (hn:get s y' = .d (.v (.int k n))) (hc:0<=n/\n < len) (hv:faA (get s x') (n.toNat * sz) = some v):OpOk P o a σ H w v H:=by
 obtain ⟨p,hp,hr⟩:=faA_sound (get_sound hx hs) hv; have h2:=get_sound hy hs; rw [hn] at h2; refine .pure h ?_ hr; simp [execOp,ho,Instr.indexAt,run_underlying ht,hp,h2.int_inv,Instr.sureAddr,asIntOf,hc,szOf_run hz]
theorem ok_ix {t:TypeId} {x y:Operand} {x' y':Opd} {b:ByteArray} {k:IntKind} {n:Int} (ho:o.op = .index t x y) (ht:P.underlying t = some .string) (hx:opd x = some x') (hy:opd y = some y')
 (hs:SS σ s a) (h:HR σ H w) (hb:get s x' = .d (.v (.string b))) (hn:get s y' = .d (.v (.int k n))) (hc:0<=n/\n < b.size):OpOk P o a σ H w (.d (.v (.int .u8 ((b.data.toList.getD n.toNat 0).toNat)))) H:=by
 have h1:=get_sound hx hs; have h2:=get_sound hy hs; rw [hb] at h1; rw [hn] at h2; refine .pure h ?_ (VR.mk_int _ _); have hlt:n.toNat < b.size:=by omega
 have hg:b[n.toNat]? = some (b.data.toList.getD n.toNat 0):=by
  have hlt':n.toNat < b.data.size:=hlt; rw [getElem?_pos b n.toNat hlt]; simp only [gDd,Array.getElem?_toList,Array.getElem?_eq_getElem hlt',Option.getD_some]
  rfl
 simp [execOp,ho,Instr.index,asIntOf,run_underlying ht,h1.str_inv,h2.int_inv,hc.1,hg]
theorem ok_ixv {t e:TypeId} {x y:Operand} {x' y':Opd} {cs:List AV} {k:IntKind} {n:Int} {len:Nat} (ho:o.op = .index t x y) (ht:P.underlying t = some (.array len e)) (hz:szOf P e = some 1) (hg:agOf P e = some false) (hx:opd x = some x') (hy:opd y = some y')
 (hs:SS σ s a) (h:HR σ H w) (hb:get s x' = .agg cs) (hn:get s y' = .d (.v (.int k n))) (hc:0<=n/\n < len/\len<=cs.length):OpOk P o a σ H w (cs.getD n.toNat .any) H:=by
 have h1:=get_sound hx hs; have h2:=get_sound hy hs; rw [hb] at h1; rw [hn] at h2
 generalize hp:a.eval x = u at h1
 cases h1 with
 | agg h3 h4 =>
  rename_i us
  have hlt:n.toNat < us.length:=by omega
  have hu:us[n.toNat]? = some us[n.toNat]:=gEe hlt; have hcx:cs[n.toNat]? = some (cs.getD n.toNat .any):=by
   have:n.toNat < cs.length:=by omega
   rw [gDd,gEe this]; rfl
  refine .pure h ?_ (h4 _ _ _ hcx hu); simp [execOp,ho,Instr.index,asIntOf,run_underlying ht,hp,h2.int_inv,hc.1,hc.2.1,part,agOf_run hg,szOf_run hz,hlt]
theorem ok_ext {x:Operand} {x':Opd} {i:Nat} {cs:List AV} {v:AV} (ho:o.op = .extract x i) (hx:opd x = some x') (hs:SS σ s a) (h:HR σ H w) (hc:get s x' = .tup cs) (hv:cs[i]? = some v):OpOk P o a σ H w v H:=by
 have h1:=get_sound hx hs; rw [hc] at h1
 generalize hp:a.eval x = u at h1
 cases h1 with
 | tup h2 h3 =>
  rename_i us
  have hlt:i < us.length:=by
   rw [<- h2]; rcases Nat.lt_or_ge i cs.length with hl | hl
   ·exact hl
   ·rw [List.getElem?_eq_none hl] at hv; cases hv
  refine .pure h ?_ (h3 i v _ hv (gEe hlt)); simp [execOp,ho,Instr.extract,hp,hlt]
theorem lenA_sound {x:AV} {u:Value} {n:Nat} (h:VR σ x u) (hn:lenA x = some n):(∃ b,u = .string b/\b.size = n)\/(∃ ad c,u = .slice ad n c):=by
 unfold lenA at hn
 split at hn <;> cases hn
 ·rename_i b
  exact .inl ⟨b,h.str_inv,rfl⟩
 ·cases h with
  | d hd=>cases hd with
   | nil=>exact .inr ⟨_,_,rfl⟩
   | sl=>exact .inr ⟨_,_,rfl⟩
 ·cases h; exact .inr ⟨_,_,rfl⟩
 ·cases h with
  | gsl _ _ hd=>cases hd with
   | nil=>exact .inr ⟨_,_,rfl⟩
   | sl=>exact .inr ⟨_,_,rfl⟩
 ·cases h with
  | hsl=>exact .inr ⟨_,_,rfl⟩
  | hsl0=>exact .inr ⟨_,_,rfl⟩
theorem ok_len {c:Call} {t:TypeId} {x:Operand} {x':Opd} {n:Nat} (ho:o.op = .call c) (hc:c.callee = .builtin .len) (hT:c.argTypes.toList = [t]) (hA:c.args.toList = [x]) (ht:P.underlying t = some .string\/∃ e,P.underlying t = some (.slice e))
 (hx:opd x = some x') (hs:SS σ s a) (h:HR σ H w) (hn:lenA (get s x') = some n) (hk:(P.underlying t = some .string->∃ b,get s x' = .d (.v (.string b)))/\((∃ e,P.underlying t = some (.slice e))->∀ b,get s x' ≠ .d (.v (.string b)))):OpOk P o a σ H w (.d (.v (.int .i64 n))) H:=by
 have hT':c.argTypes = #[t]:=by rw [<- Array.toArray_toList (xs:=c.argTypes),hT]
 have hA':c.args = #[x]:=by rw [<- Array.toArray_toList (xs:=c.args),hA]
 have h1:=get_sound hx hs; refine .pure h ?_ (VR.mk_int _ _); rcases ht with ht | ⟨e,ht⟩
 ·obtain ⟨b,hb⟩:=hk.1 ht
  rw [hb] at h1 hn; simp [lenA] at hn; subst hn; simp [execOp,ho,resolve,hc,hA',hT',invoke,builtin,Builtin.len_,run_underlying ht,h1.str_inv,goInt]
 ·rcases lenA_sound h1 hn with ⟨b,hb,_⟩ | ⟨ad,cc,hu⟩
  ·exfalso
   rw [hb] at h1; have:=hk.2 ⟨e,ht⟩
   generalize get s x' = X at h1 hn this
   cases h1 with
   | any=>simp [lenA] at hn
   | d hd=>cases hd with
    | v=>exact this b rfl
   | gsl _ _ hd=>cases hd
  ·simp [execOp,ho,resolve,hc,hA',hT',invoke,builtin,Builtin.len_,run_underlying ht,hu,goInt]
end
end Go.Proofs.YtofpekbidngnfaaGreatDoor
