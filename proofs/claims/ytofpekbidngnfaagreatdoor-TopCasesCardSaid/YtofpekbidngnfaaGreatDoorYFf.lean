/-
  One's own library, part 20: the quick evaluator. Its values, its heap, its operations (definitions alone; printed by genFe.py).
-/
import Derived.Test.YtofpekbidngnfaaGreatDoorYSnd3
import Derived.Test.YtofpekbidngnfaaGreatDoorYDraw2
set_option linter.constructorNameAsVariable false
set_option linter.unusedSectionVars false
set_option linter.unusedSimpArgs false
set_option linter.unusedVariables false
namespace Go.Proofs.YtofpekbidngnfaaGreatDoor
open Go.RowKit
noncomputable section
structure Clo (α:Type) where
 f:α
def ap {α β:Type} (k:α->β) (c:Clo α):β:=Clo.rec (motive:=λ_=>β) k c
inductive D8 where
 | a | b | c | d | e | f | g | h
 deriving DecidableEq,Inhabited
structure R8 (α:Type) where
 mk :: (a b c d e f g h:α)
def d8 (n:Nat):D8:=Nat.rec (motive:=λ_=>D8) .a (λn _=>Nat.rec (motive:=λ_=>D8) .b (λn _=>Nat.rec (motive:=λ_=>D8) .c (λn _=>Nat.rec (motive:=λ_=>D8) .d (λn _=>Nat.rec (motive:=λ_=>D8) .e (λn _=>Nat.rec (motive:=λ_=>D8) .f (λn _=>Nat.rec (motive:=λ_=>D8) .g (λ_ _=>.h) n) n) n) n) n) n) n
def n8 (d:D8):Nat:=D8.rec (motive:=λ_=>Nat) 0 1 2 3 4 5 6 7 d
def r8g {α:Type} (d:D8):Clo (R8 α->α):=D8.rec (motive:=λ_=>Clo (R8 α->α)) ⟨R8.a⟩ ⟨R8.b⟩ ⟨R8.c⟩ ⟨R8.d⟩ ⟨R8.e⟩ ⟨R8.f⟩ ⟨R8.g⟩ ⟨R8.h⟩ d
def r8s {α:Type} (d:D8):Clo ((α->α)->R8 α->R8 α):=D8.rec (motive:=λ_=>Clo ((α->α)->R8 α->R8 α)) ⟨λk t=>R8.rec (motive:=λ_=>(α->α)->R8 α) (λa b c d e f g h k=>.mk (k a) b c d e f g h) t k⟩ ⟨λk t=>R8.rec (motive:=λ_=>(α->α)->R8 α) (λa b c d e f g h k=>.mk a (k b) c d e f g h) t k⟩ ⟨λk t=>R8.rec (motive:=λ_=>(α->α)->R8 α) (λa b c d e f g h k=>.mk a b (k c) d e f g h) t k⟩ ⟨λk t=>R8.rec (motive:=λ_=>(α->α)->R8 α) (λa b c d e f g h k=>.mk a b c (k d) e f g h) t k⟩ ⟨λk t=>R8.rec (motive:=λ_=>(α->α)->R8 α) (λa b c d e f g h k=>.mk a b c d (k e) f g h) t k⟩ ⟨λk t=>R8.rec (motive:=λ_=>(α->α)->R8 α) (λa b c d e f g h k=>.mk a b c d e (k f) g h) t k⟩ ⟨λk t=>R8.rec (motive:=λ_=>(α->α)->R8 α) (λa b c d e f g h k=>.mk a b c d e f (k g) h) t k⟩ ⟨λk t=>R8.rec (motive:=λ_=>(α->α)->R8 α) (λa b c d e f g h k=>.mk a b c d e f g (k h)) t k⟩ d
def r8get {α:Type} (d:D8) (t:R8 α):α:=R8.rec (motive:=λ_=>α) (λa b c e f g h i=>D8.rec (motive:=λ_=>α) a b c e f g h i d) t
def r8set {α:Type} (d:D8) (k:α->α) (t:R8 α):R8 α:=
 D8.rec (motive:=λ_=>R8 α->R8 α) (λt=>R8.rec (motive:=λ_=>R8 α) (λa b c d e f g h=>.mk (k a) b c d e f g h) t) (λt=>R8.rec (motive:=λ_=>R8 α) (λa b c d e f g h=>.mk a (k b) c d e f g h) t) (λt=>R8.rec (motive:=λ_=>R8 α) (λa b c d e f g h=>.mk a b (k c) d e f g h) t) (λt=>R8.rec (motive:=λ_=>R8 α) (λa b c d e f g h=>.mk a b c (k d) e f g h) t) (λt=>R8.rec (motive:=λ_=>R8 α) (λa b c d e f g h=>.mk a b c d (k e) f g h) t) (λt=>R8.rec (motive:=λ_=>R8 α) (λa b c d e f g h=>.mk a b c d e (k f) g h) t) (λt=>R8.rec (motive:=λ_=>R8 α) (λa b c d e f g h=>.mk a b c d e f (k g) h) t) (λt=>R8.rec (motive:=λ_=>R8 α) (λa b c d e f g h=>.mk a b c d e f g (k h)) t) d t
inductive Pth where
 | mk (a b c d e:D8)
 deriving DecidableEq,Inhabited
def pth (n:Nat):Pth:=.mk (d8 (Nat.mod (Nat.div n 4096) 8)) (d8 (Nat.mod (Nat.div n 512) 8)) (d8 (Nat.mod (Nat.div n 64) 8)) (d8 (Nat.mod (Nat.div n 8) 8)) (d8 (Nat.mod n 8))
def num (p:Pth):Nat:=Pth.rec (motive:=λ_=>Nat) (λa b c d e=>Nat.add (Nat.mul (n8 a) 4096) (Nat.add (Nat.mul (n8 b) 512) (Nat.add (Nat.mul (n8 c) 64) (Nat.add (Nat.mul (n8 d) 8) (n8 e))))) p
inductive FV where
 | any
 | ub
 | nilp
 | mnil
 | esl
 | nilf
 | nili
 | x (a:AV)
 | mp (p:Pth)
 | fn (f:Nat) (cs:List FV)
 | fnb (f:Nat) (cs:List FV)
 | ifc (t:Nat) (v:FV)
 | tup (cs:List FV)
 | s (l c:Nat)
 | hsl (p:Pth) (o n c z:Nat)
 | agg (cs:List FV)
 | b (t:Bool)
 | ptr (p:Pth) (o:Nat)
 | i (k:IntKind) (n:Int)
 deriving Inhabited
def bys:Nat->Nat->List UInt8
 | 0,_=>[]
 | l + 1,c=>UInt8.ofNat (c % 256) :: bys l (c / 256)
mutual
def toA:FV->AV
 | .any=>.any
 | .ub=>.ub
 | .nilp=>.nilp
 | .mnil=>.mnil
 | .esl=>.esl
 | .nilf=>.d (.v .nilFunc)
 | .nili=>.d (.v .nilIface)
 | .x a=>a
 | .mp p=>.mp (num p)
 | .fn f cs=>.fn f (toAs cs)
 | .fnb f cs=>.fnb f (toAs cs)
 | .ifc t v=>.ifc t (toA v)
 | .tup cs=>.tup (toAs cs)
 | .s l c=>.d (.v (.string ⟨(bys l c).toArray⟩))
 | .hsl p o n c z=>.hsl (num p) o n c z
 | .agg cs=>.agg (toAs cs)
 | .b t=>.d (.v (.bool t))
 | .ptr p o=>.ptr (num p) o
 | .i k n=>.d (.v (.int k n))
def toAs:List FV->List AV
 | []=>[]
 | a :: b=>toA a :: toAs b
end
def lnth (z:FV) (l:List FV):Nat->FV:=List.rec (motive:=λ_=>Nat->FV) (λ_=>z) (λa _ ih n=>Nat.rec (motive:=λ_=>FV) a (λm _=>ih m) n) l
def putN (z v:FV) (l:List FV):Nat->List FV:=
 List.rec (motive:=λ_=>Nat->List FV) (λn=>Nat.rec (motive:=λ_=>List FV) [v] (λ_ r=>z :: r) n) (λa b ih n=>Nat.rec (motive:=λ_=>List FV) (v :: b) (λm _=>a :: ih m) n) l
def lcs {β:Type} (d:β) (k:FV->List FV->β) (l:List FV):β:=List.rec (motive:=λ_=>β) d (λa b _=>k a b) l
def takN (z:FV) (n:Nat):List FV->List FV:=Nat.rec (motive:=λ_=>List FV->List FV) (λ_=>[]) (λ_ ih l=>lcs (z :: ih []) (λa b=>a :: ih b) l) n
def drpN (n:Nat):List FV->List FV:=Nat.rec (motive:=λ_=>List FV->List FV) (λl=>l) (λ_ ih l=>lcs [] (λ_ b=>ih b) l) n
def lenL (l:List FV):Nat->Nat:=List.rec (motive:=λ_=>Nat->Nat) (λn=>n) (λ_ _ ih n=>ih (Nat.succ n)) l
def appL (l r:List FV):List FV:=List.rec (motive:=λ_=>List FV) r (λa _ ih=>a :: ih) l
def layN (z:FV) (vs:List FV):Nat->List FV->List FV:=λo =>
 Nat.rec (motive:=λ_=>List FV->List FV) (λl=>List.rec (motive:=λ_=>List FV->List FV) (λl=>l) (λv _ ih l=>v :: ih (lcs [] (λ_ b=>b) l)) vs l)
  (λ_ ih l=>lcs (z :: ih []) (λa b=>a :: ih b) l) o
inductive Es where
 | nil
 | cons (k v:FV) (c:Nat) (r:Es)
inductive FB where
 | dead
 | it (p:Pth) (since:Nat) (seen:List Nat) (last:Nat)
 | m (kt:KT) (ck:Nat) (es:Es)
 | c (n:Nat) (cs:List FV) (z:FV)
 | mf (kt:KT) (es:Es)
abbrev HT:=R8 (R8 (R8 (R8 (R8 FB))))
def all8 {α:Type} (a:α):R8 α:=.mk a a a a a a a a
def hE:HT:=all8 (all8 (all8 (all8 (all8 .dead))))
def pg (p:Pth):Clo (HT->FB):=Pth.rec (motive:=λ_=>Clo (HT->FB)) (λa b c d e=>ap (λa=>ap (λb=>ap (λc=>ap (λd=>ap (λe=>⟨λt=>e (d (c (b (a t))))⟩) (r8g e)) (r8g d)) (r8g c)) (r8g b)) (r8g a)) p
def ps (p:Pth):Clo (FB->HT->HT):=Pth.rec (motive:=λ_=>Clo (FB->HT->HT)) (λa b c d e=>ap (λa=>ap (λb=>ap (λc=>ap (λd=>ap (λe=>⟨λx t=>a (b (c (d (e λ_=>x)))) t⟩) (r8s e)) (r8s d)) (r8s c)) (r8s b)) (r8s a)) p
def hget (p:Pth) (t:HT):FB:=ap (λf=>f t) (pg p)
def hset (x:FB) (p:Pth) (t:HT):HT:=ap (λf=>f x t) (ps p)
inductive Lg where
 | nil
 | cons (p:Pth) (r:Lg)
inductive Hp where
 | mk (t:HT) (n:Nat) (lg:Lg)
inductive FR where
 | no
 | ok (v:FV) (h:Hp)
abbrev Fr:=R8 (R8 (R8 FV))
def fE:Fr:=all8 (all8 (all8 .any))
inductive FE where
 | nrm
 | ret
 | ext (id:Nat)
inductive FX where
 | no
 | ok (e:FE) (s:Fr) (h:Hp)
def slg (n:Nat):Clo (Fr->FV):=
 ap (λf=>ap (λg=>ap (λe=>⟨λt=>e (g (f t))⟩) (r8g (d8 (Nat.mod n 8)))) (r8g (d8 (Nat.mod (Nat.div n 8) 8)))) (r8g (d8 (Nat.mod (Nat.div n 64) 8)))
def sls (n:Nat):Clo (FV->Fr->Fr):=
 ap (λf=>ap (λg=>ap (λe=>⟨λv t=>f (g (e (λ_=>v))) t⟩) (r8s (d8 (Nat.mod n 8)))) (r8s (d8 (Nat.mod (Nat.div n 8) 8)))) (r8s (d8 (Nat.mod (Nat.div n 64) 8)))
def onHp {β:Type} (h:Hp) (k:HT->Nat->Lg->β):β:=Hp.rec (motive:=λ_=>β) k h
def onFB (k:Nat->List FV->FV->FR) (x:FB):FR:=FB.rec (motive:=λ_=>FR) .no (λ_ _ _ _=>.no) (λ_ _ _=>.no) k (λ_ _=>.no) x
def onFM (k:KT->Nat->Es->FR) (x:FB):FR:=FB.rec (motive:=λ_=>FR) .no (λ_ _ _ _=>.no) k (λ_ _ _=>.no) (λ_ _=>.no) x
def cellsOf (h:Hp) (p:Pth) (k:Nat->List FV->FV->FR):FR:=onHp h λt _ _=>onFB k (hget p t)
def onFL (k:KT->Es->FR) (x:FB):FR:=FB.rec (motive:=λ_=>FR) .no (λ_ _ _ _=>.no) (λkt _ es=>k kt es) (λ_ _ _=>.no) k x
def mapLF (h:Hp) (p:Pth) (k:KT->Es->FR):FR:=onHp h λt _ _=>onFL k (hget p t)
def mapOfF (h:Hp) (p:Pth) (k:KT->Nat->Es->FR):FR:=onHp h λt _ _=>onFM k (hget p t)
def onFI (k:Pth->Nat->List Nat->Nat->FR) (x:FB):FR:=FB.rec (motive:=λ_=>FR) .no k (λ_ _ _=>.no) (λ_ _ _=>.no) (λ_ _=>.no) x
def iterOf (h:Hp) (p:Pth) (k:Pth->Nat->List Nat->Nat->FR):FR:=onHp h λt _ _=>onFI k (hget p t)
def setB (h:Hp) (p:Pth) (x:FB):Hp:=onHp h λt n lg=>.mk (hset x p t) n (.cons p lg)
def fN {β:Type} (m:Nat) (k:Nat->β):β:=Nat.rec (motive:=λ_=>β) (k 0) (λm' _=>k (Nat.succ m')) m
def newB (h:Hp) (x:FB) (k:Pth->Hp->FR):FR:=
 onHp h λt n lg=>Bool.rec (motive:=λ_=>FR) .no (k (pth n) (.mk (hset x (pth n) t) (Nat.succ n) lg)) (Nat.blt n 32768)
inductive FO where
 | c (v:FV)
 | t (n:Nat)
def gO (x:FO):Fr->FV:=FO.rec (motive:=λ_=>Fr->FV) (λv _=>v) (λn s=>ap (λf=>f s) (slg n)) x
inductive FOs where
 | nil
 | cons (x:FO) (r:FOs)
def gOs (x:FOs) (s:Fr):List FV:=FOs.rec (motive:=λ_=>List FV) [] (λx _ r=>gO x s :: r) x
inductive FPs where
 | nil
 | cons (o n:Nat) (x:FO) (r:FPs)
inductive FOo where
 | no
 | ok (x:FO)
inductive Tb where
 | nil
 | cons (t f:Nat) (r:Tb)
inductive FK where
 | no
 | s2b (x:FO)
 | ixb (x c:FO)
 | me (kt:KT) (z:FV) (m k:FO)
 | mes (m st v:FO)
 | rng (x:FO)
 | ent (x:FO)
 | nx (x:FO)
 | mks (sz by':Nat) (z:List FV) (n c:FO)
 | cpy (sz:Nat) (d x:FO)
 | mkm (kt:KT)
 | lk (kt:KT) (z:FV) (ok:Bool) (m k:FO)
 | mu (kt:KT) (m k v:FO)
 | isn (mp neg:Bool) (x:FO)
 | eqi (neg:Bool) (x:FO)
 | eqg (kt:KT) (neg:Bool) (x y:FO)
 | b2s (x:FO)
 | mki (t:Nat) (x:FO)
 | tas (t:Nat) (z:FV) (ok:Bool) (x:FO)
 | inv (tb:Tb) (x:FO) (args:FOs)
 | mkf (f:Nat) (caps:FOs)
 | mkb (f:Nat) (caps:FOs)
 | mlen (x:FO)
 | mn (xs:FOs)
 | mx (xs:FOs)
 | app (sz by':Nat) (a x:FO)
 | sls (lo hi:FOo) (x:FO)
 | slh (sz:Nat) (lo hi:FOo) (x:FO)
 | sla (n sz:Nat) (lo hi:FOo) (x:FO)
 | bs (n sz:Nat) (ps:FOs)
 | bd (z:List FV) (ps:FPs)
 | eqs (neg:Bool) (x y:FO)
 | eqp (neg:Bool) (x y:FO)
 | callv (g:FO) (args:FOs)
 | fldn (off n:Nat) (x:FO)
 | fld (off:Nat) (x:FO)
 | ixv (n:Nat) (x i:FO)
 | iar (n sz:Nat) (x i:FO)
 | ia (sz:Nat) (x i:FO)
 | ix (x i:FO)
 | lens (x:FO)
 | lenh (x:FO)
 | ext (i:Nat) (x:FO)
 | bx (x:FO)
 | al (n:Nat) (z:List FV)
 | un (op:UnOp) (x:FO)
 | cvi (k:IntKind) (x:FO)
 | nc (x:FO)
 | stn (n:Nat) (x v:FO)
 | st (x v:FO)
 | ldn (n:Nat) (x:FO)
 | ld (x:FO)
 | call (f:Nat) (args:FOs)
 | pick (c a b:FO)
 | fa (off:Nat) (x:FO)
 | bin (op:BinOp) (x y:FO)
 | mv (x:FO)
def onI (kk:IntKind->Int->FR) (x:FV):FR:=FV.rec (motive_1:=λ_=>FR) (motive_2:=λ_=>Unit) .no .no .no .no .no .no .no (λ_=>.no) (λ_=>.no) (λ_ _ _=>.no) (λ_ _ _=>.no) (λ_ _ _=>.no) (λ_ _=>.no) (λ_ _=>.no) (λ_ _ _ _ _=>.no) (λ_ _=>.no) (λ_=>.no) (λ_ _=>.no) (λk n=>kk k n) () (λ_ _ _ _=>()) x
def onP (kk:Pth->Nat->FR) (x:FV):FR:=FV.rec (motive_1:=λ_=>FR) (motive_2:=λ_=>Unit) .no .no .no .no .no .no .no (λ_=>.no) (λ_=>.no) (λ_ _ _=>.no) (λ_ _ _=>.no) (λ_ _ _=>.no) (λ_ _=>.no) (λ_ _=>.no) (λ_ _ _ _ _=>.no) (λ_ _=>.no) (λ_=>.no) (λp o=>kk p o) (λ_ _=>.no) () (λ_ _ _ _=>()) x
def onB (kk:Bool->FR) (x:FV):FR:=FV.rec (motive_1:=λ_=>FR) (motive_2:=λ_=>Unit) .no .no .no .no .no .no .no (λ_=>.no) (λ_=>.no) (λ_ _ _=>.no) (λ_ _ _=>.no) (λ_ _ _=>.no) (λ_ _=>.no) (λ_ _=>.no) (λ_ _ _ _ _=>.no) (λ_ _=>.no) (λt=>kk t) (λ_ _=>.no) (λ_ _=>.no) () (λ_ _ _ _=>()) x
def onAgg (kk:List FV->FR) (x:FV):FR:=FV.rec (motive_1:=λ_=>FR) (motive_2:=λ_=>Unit) .no .no .no .no .no .no .no (λ_=>.no) (λ_=>.no) (λ_ _ _=>.no) (λ_ _ _=>.no) (λ_ _ _=>.no) (λ_ _=>.no) (λ_ _=>.no) (λ_ _ _ _ _=>.no) (λcs _=>kk cs) (λ_=>.no) (λ_ _=>.no) (λ_ _=>.no) () (λ_ _ _ _=>()) x
def onTup (kk:List FV->FR) (x:FV):FR:=FV.rec (motive_1:=λ_=>FR) (motive_2:=λ_=>Unit) .no .no .no .no .no .no .no (λ_=>.no) (λ_=>.no) (λ_ _ _=>.no) (λ_ _ _=>.no) (λ_ _ _=>.no) (λcs _=>kk cs) (λ_ _=>.no) (λ_ _ _ _ _=>.no) (λ_ _=>.no) (λ_=>.no) (λ_ _=>.no) (λ_ _=>.no) () (λ_ _ _ _=>()) x
def onS (kk:Nat->Nat->FR) (x:FV):FR:=FV.rec (motive_1:=λ_=>FR) (motive_2:=λ_=>Unit) .no .no .no .no .no .no .no (λ_=>.no) (λ_=>.no) (λ_ _ _=>.no) (λ_ _ _=>.no) (λ_ _ _=>.no) (λ_ _=>.no) (λl c=>kk l c) (λ_ _ _ _ _=>.no) (λ_ _=>.no) (λ_=>.no) (λ_ _=>.no) (λ_ _=>.no) () (λ_ _ _ _=>()) x
def onH (kk:Pth->Nat->Nat->Nat->Nat->FR) (x:FV):FR:=FV.rec (motive_1:=λ_=>FR) (motive_2:=λ_=>Unit) .no .no .no .no .no .no .no (λ_=>.no) (λ_=>.no) (λ_ _ _=>.no) (λ_ _ _=>.no) (λ_ _ _=>.no) (λ_ _=>.no) (λ_ _=>.no) (λp o n c z=>kk p o n c z) (λ_ _=>.no) (λ_=>.no) (λ_ _=>.no) (λ_ _=>.no) () (λ_ _ _ _=>()) x
def onM (e:FR) (k:Pth->FR) (x:FV):FR:=FV.rec (motive_1:=λ_=>FR) (motive_2:=λ_=>Unit) .no .no .no (e) .no .no .no (λ_=>.no) (λp=>k p) (λ_ _ _=>.no) (λ_ _ _=>.no) (λ_ _ _=>.no) (λ_ _=>.no) (λ_ _=>.no) (λ_ _ _ _ _=>.no) (λ_ _=>.no) (λ_=>.no) (λ_ _=>.no) (λ_ _=>.no) () (λ_ _ _ _=>()) x
def mkI (k:IntKind) (n:Int) (h:Hp):FR:=
 Int.rec (motive:=λ_=>FR) (λm=>fN m λm=>.ok (.i k (.ofNat m)) h) (λm=>fN m λm=>.ok (.i k (.negSucc m)) h) n
def sgS (M h:Int) (n:Int):Int:=let m:=n % M; if m ≥ h then m - M else m
def wrS (k:IntKind) (n:Int):Int:=
 match k with
 | .i8=>sgS 256 128 n
 | .i16=>sgS 65536 32768 n
 | .i32=>sgS 4294967296 2147483648 n
 | .i64=>sgS 18446744073709551616 9223372036854775808 n
 | .u8=>n % 256
 | .u16=>n % 65536
 | .u32=>n % 4294967296
 | .u64=>n % 18446744073709551616
def wU (k:IntKind) (M:Nat) (n:Int):Int:=Int.rec (motive:=λ_=>Int) (λm=>.ofNat (Nat.mod m M)) (λm=>wrS k (.negSucc m)) n
def wI (k:IntKind) (M:Nat) (n:Int):Int:=
 Int.rec (motive:=λ_=>Int) (λm=>Bool.rec (motive:=λ_=>Int) (wrS k (.ofNat m)) (.ofNat m) (Nat.blt m M)) (λm=>Bool.rec (motive:=λ_=>Int) (wrS k (.negSucc m)) (.negSucc m) (Nat.blt m M)) n
def wr (k:IntKind):Int->Int:=IntKind.rec (motive:=λ_=>Int->Int) (wI .i8 128) (wI .i16 32768) (wI .i32 2147483648) (wI .i64 9223372036854775808) (wU .u8 256) (wU .u16 65536) (wU .u32 4294967296) (wU .u64 18446744073709551616) k
def kN (k:IntKind):Nat:=IntKind.rec (motive:=λ_=>Nat) 0 1 2 3 4 5 6 7 k
def nn (f:Nat->Nat->Int) (g:Int->Int->Int) (a b:Int):Int:=
 Int.rec (motive:=λ_=>Int) (λm=>Int.rec (motive:=λ_=>Int) (λn=>f m n) (λn=>g (.ofNat m) (.negSucc n)) b) (λm=>g (.negSucc m) b) a
def nnB (f:Nat->Nat->Bool) (g:Int->Int->Bool) (a b:Int):Bool:=
 Int.rec (motive:=λ_=>Bool) (λm=>Int.rec (motive:=λ_=>Bool) (λn=>f m n) (λn=>g (.ofNat m) (.negSucc n)) b) (λm=>g (.negSucc m) b) a
def iadd (a b:Int):Int:=nn (λm n=>.ofNat (Nat.add m n)) (· + ·) a b
def isub (a b:Int):Int:=nn (λm n=>Bool.rec (motive:=λ_=>Int) (Int.ofNat m - Int.ofNat n) (.ofNat (Nat.sub m n)) (Nat.ble n m)) (· - ·) a b
def imul (a b:Int):Int:=nn (λm n=>.ofNat (Nat.mul m n)) (· * ·) a b
def iquo (a b:Int):Int:=nn (λm n=>.ofNat (Nat.div m n)) (λa b=>a.tdiv b) a b
def irem (a b:Int):Int:=nn (λm n=>.ofNat (Nat.mod m n)) (λa b=>a.tmod b) a b
def ieq (a b:Int):Bool:=nnB Nat.beq (λa b=>a == b) a b
def ine (a b:Int):Bool:=Bool.rec (motive:=λ_=>Bool) true false (ieq a b)
def ilt (a b:Int):Bool:=nnB (λm n=>Nat.ble (Nat.succ m) n) (λa b=>decide (a < b)) a b
def ile (a b:Int):Bool:=nnB Nat.ble (λa b=>decide (a<=b)) a b
def iand (k:IntKind) (a b:Int):Int:=nn (λm n=>.ofNat (Nat.land m n)) (λa b=>(BitVec.ofInt k.bits a &&& BitVec.ofInt k.bits b).toNat) a b
def ior (k:IntKind) (a b:Int):Int:=nn (λm n=>.ofNat (Nat.lor m n)) (λa b=>(BitVec.ofInt k.bits a ||| BitVec.ofInt k.bits b).toNat) a b
def ixor (k:IntKind) (a b:Int):Int:=nn (λm n=>.ofNat (Nat.xor m n)) (λa b=>(BitVec.ofInt k.bits a ^^^ BitVec.ofInt k.bits b).toNat) a b
def bitsN (k:IntKind):Nat:=IntKind.rec (motive:=λ_=>Nat) 8 16 32 64 8 16 32 64 k
def ishl (k:IntKind) (a:Int) (b:Nat):Int:=Int.rec (motive:=λ_=>Int) (λm=>.ofNat (Nat.mul m (Nat.pow 2 (Nat.min b (bitsN k))))) (λm=>Int.negSucc m * ((2 ^ (min b k.bits):Nat):Int)) a
def ishr (k:IntKind) (a:Int) (b:Nat):Int:=Int.rec (motive:=λ_=>Int) (λm=>.ofNat (Nat.div m (Nat.pow 2 (Nat.min b (bitsN k))))) (λm=>Int.negSucc m / ((2 ^ (min b k.bits):Nat):Int)) a
def cI (f:IntKind->Int->Int->Hp->FR) (x y:FV) (h:Hp):FR:=
 onI (λk a=>onI (λk' b=>Bool.rec (motive:=λ_=>FR) .no (f k a b h) (Nat.beq (kN k) (kN k'))) y) x
def cS (f:IntKind->Int->Nat->Int) (x y:FV) (h:Hp):FR:=
 onI (λk a=>onI (λ_ b=>Int.rec (motive:=λ_=>FR) (λn=>mkI k (f k a n) h) (λ_=>.no) b) y) x
def cIS (f:IntKind->Int->Int->Hp->FR) (g:Nat->Nat->Nat->Nat->Hp->FR) (x y:FV) (h:Hp):FR:=
 FV.rec (motive_1:=λ_=>FR) (motive_2:=λ_=>Unit) .no .no .no .no .no .no .no (λ_=>.no) (λ_=>.no) (λ_ _ _=>.no) (λ_ _ _=>.no) (λ_ _ _=>.no) (λ_ _=>.no) (λl c=>onS (λl' c'=>g l c l' c' h) y) (λ_ _ _ _ _=>.no) (λ_ _=>.no) (λ_=>.no) (λ_ _=>.no) (λk n=>onI (λk' b=>Bool.rec (motive:=λ_=>FR) .no (f k n b h) (Nat.beq (kN k) (kN k'))) y) () (λ_ _ _ _=>()) x
def p8 (l:Nat):Nat:=Nat.pow 2 (Nat.mul 8 l)
def seq8 (l c l' c':Nat):Bool:=Bool.rec (motive:=λ_=>Bool) false (Nat.beq (Nat.mod c (p8 l)) (Nat.mod c' (p8 l))) (Nat.beq l l')
def mkS (l c:Nat) (h:Hp):FR:=fN l λl=>fN c λc=>.ok (.s l c) h
def binK (op:BinOp):FV->FV->Hp->FR:=
 BinOp.rec (motive:=λ_=>FV->FV->Hp->FR)
  (cIS (λk a b=>mkI k (wr k (iadd a b))) (λl c l' c' h=>Bool.rec (motive:=λ_=>FR) .no (mkS (Nat.add l l') (Nat.add (Nat.mod c (p8 l)) (Nat.mul (p8 l) c')) h) (Nat.blt (Nat.add l l') 9223372036854775807)))
  (cI λk a b=>mkI k (wr k (isub a b)))
  (cI λk a b=>mkI k (wr k (imul a b)))
  (cI λk a b h=>Bool.rec (motive:=λ_=>FR) (mkI k (wr k (iquo a b)) h) .no (ieq b 0))
  (cI λk a b h=>Bool.rec (motive:=λ_=>FR) (mkI k (irem a b) h) .no (ieq b 0))
  (cI λk a b=>mkI k (wr k (iand k a b)))
  (cI λk a b=>mkI k (wr k (ior k a b)))
  (cI λk a b=>mkI k (wr k (ixor k a b)))
  (cS λk a n=>wr k (ishl k a n))
  (cS λk a n=>ishr k a n)
  (cI λk a b=>mkI k (wr k (BitVec.ofInt k.bits a &&& ~~~ BitVec.ofInt k.bits b).toNat))
  (cIS (λ_ a b h=>.ok (.b (ieq a b)) h) (λl c l' c' h=>.ok (.b (seq8 l c l' c')) h))
  (cIS (λ_ a b h=>.ok (.b (ine a b)) h) (λl c l' c' h=>.ok (.b (Bool.rec (motive:=λ_=>Bool) true false (seq8 l c l' c'))) h))
  (cI λ_ a b h=>.ok (.b (ilt a b)) h)
  (cI λ_ a b h=>.ok (.b (ile a b)) h)
  (cI λ_ a b h=>.ok (.b (ilt b a)) h)
  (cI λ_ a b h=>.ok (.b (ile b a)) h) op
def notB (t:Bool):Bool:=Bool.rec (motive:=λ_=>Bool) true false t
def unK (op:UnOp) (x:FV) (h:Hp):FR:=
 match op with
 | .not=>onB (λt=>.ok (.b (notB t)) h) x
 | .neg=>onI (λk a=>mkI k (wr k (isub 0 a)) h) x
 | _=>.no
def code8:List UInt8->Nat
 | []=>0
 | b :: l=>b.toNat + 256 * code8 l
def fv:AV->FV
 | .any=>.any
 | .ub=>.ub
 | .nilp=>.nilp
 | .mnil=>.mnil
 | .esl=>.esl
 | .d (.v .nilFunc)=>.nilf
 | .d (.v .nilIface)=>.nili
 | .d (.v (.string b))=>.s b.data.toList.length (code8 b.data.toList)
 | .d (.v (.bool t))=>.b t
 | .d (.v (.int k n))=>.i k n
 | .fn f []=>.fn f []
 | a=>.x a
def fvs (l:List AV):List FV:=List.rec (motive:=λ_=>List FV) [] (λa _ r=>fv a :: r) l
def fvA:AV->FV
 | .agg cs=>.agg (fvs cs)
 | a=>fv a
def viaA (r:Option AV) (h:Hp):FR:=match r with
 | some a=>.ok (fv a) h
 | none=>.no
def bif' {β:Type} (t:Bool) (a b:β):β:=Bool.rec (motive:=λ_=>β) b a t
def onN (k:Nat->FR) (n:Int):FR:=Int.rec (motive:=λ_=>FR) k (λ_=>.no) n
def cellB (x:FV):Bool:=FV.rec (motive_1:=λ_=>Bool) (motive_2:=λ_=>Unit) (false) (true) (true) (true) (true) (true) (true) (λa=>one a) (λp=>true) (λf cs _=>true) (λf cs _=>true) (λt v _=>true) (λcs _=>false) (λl c=>true) (λp o n c z=>true) (λcs _=>false) (λt=>true) (λp o=>true) (λk n=>true) () (λ_ _ _ _=>()) x
def cellsB (n:Nat):List FV->Bool:=
 Nat.rec (motive:=λ_=>List FV->Bool) (λl=>lcs true (λ_ _=>false) l) (λ_ ih l=>lcs false (λa b=>bif' (cellB a) (ih b) false) l) n
def k_pick (c a b:FV) (h:Hp):FR:=onB (λt=>.ok (bif' t a b) h) c
def k_fa (off:Nat) (x:FV) (h:Hp):FR:=
 FV.rec (motive_1:=λ_=>FR) (motive_2:=λ_=>Unit) .no .no .no .no .no .no .no (λa=>viaA (faA a off) h) (λ_=>.no) (λ_ _ _=>.no) (λ_ _ _=>.no) (λ_ _ _=>.no) (λ_ _=>.no) (λ_ _=>.no) (λ_ _ _ _ _=>.no) (λ_ _=>.no) (λ_=>.no) (λp o=>fN (Nat.add o off) λo=>.ok (.ptr p o) h) (λ_ _=>.no) () (λ_ _ _ _=>()) x
def k_ld (x:FV) (h:Hp):FR:=
 FV.rec (motive_1:=λ_=>FR) (motive_2:=λ_=>Unit) .no .no .no .no .no .no .no (λa=>viaA ((loadA [] a 1).bind (outA false)) h) (λ_=>.no) (λ_ _ _=>.no) (λ_ _ _=>.no) (λ_ _ _=>.no) (λ_ _=>.no) (λ_ _=>.no) (λ_ _ _ _ _=>.no) (λ_ _=>.no) (λ_=>.no) (λp o=>cellsOf h p λn cs z=>bif' (Nat.blt o n) (.ok (lnth z cs o) h) .no) (λ_ _=>.no) () (λ_ _ _ _=>()) x
def k_ldn (m:Nat) (x:FV) (h:Hp):FR:=
 FV.rec (motive_1:=λ_=>FR) (motive_2:=λ_=>Unit) .no .no .no .no .no .no .no (λa=>(match loadA [] a m with | some l=>.ok (.agg (fvs l)) h | none=>.no)) (λ_=>.no) (λ_ _ _=>.no) (λ_ _ _=>.no) (λ_ _ _=>.no) (λ_ _=>.no) (λ_ _=>.no) (λ_ _ _ _ _=>.no) (λ_ _=>.no) (λ_=>.no) (λp o=>cellsOf h p λn cs z=>bif' (Nat.ble (Nat.add o m) n) (.ok (.agg (takN z m (drpN o cs))) h) .no) (λ_ _=>.no) () (λ_ _ _ _=>()) x
def k_stn (m:Nat) (x v:FV) (h:Hp):FR:=
 onP (λp o=>onAgg (λvs=>cellsOf h p λn cs z=>bif' (Nat.ble (Nat.add o m) n) (bif' (cellsB m vs) (.ok (.tup []) (setB h p (.c n (layN z vs o cs) z))) .no) .no) v) x
def k_st (x v:FV) (h:Hp):FR:=
 bif' (cellB v) (onP (λp o=>cellsOf h p λn cs z=>bif' (Nat.blt o n) (.ok (.tup []) (setB h p (.c n (putN z v cs o) z))) .no) x) (k_stn 1 x v h)
def k_nc (x:FV) (h:Hp):FR:=
 FV.rec (motive_1:=λ_=>FR) (motive_2:=λ_=>Unit) .no .no .no .no .no .no .no (λa=>(match a with | .ip cs=>.ok (.x (.ip cs)) h | _=>.no)) (λ_=>.no) (λf cs _=>.ok x h) (λf cs _=>.no) (λ_ _ _=>.no) (λ_ _=>.no) (λ_ _=>.no) (λ_ _ _ _ _=>.no) (λ_ _=>.no) (λ_=>.no) (λp o=>.ok x h) (λ_ _=>.no) () (λ_ _ _ _=>()) x
def k_cvi (k:IntKind) (x:FV) (h:Hp):FR:=onI (λ_ n=>mkI k (wr k n) h) x
def cellsF (x:FV) (kk:Nat->List FV->FR):FR:=
 FV.rec (motive_1:=λ_=>FR) (motive_2:=λ_=>Unit) (.no) (kk 1 [x]) (kk 1 [x]) (kk 1 [x]) (kk 1 [x]) (kk 1 [x]) (kk 1 [x]) (λa=>bif' (one a) (kk 1 [x]) .no) (λp=>kk 1 [x]) (λf cs _=>kk 1 [x]) (λf cs _=>kk 1 [x]) (λt v _=>kk 1 [x]) (λcs _=>.no) (λl c=>kk 1 [x]) (λp o n c z=>kk 1 [x]) (λcs _=>fN (lenL cs 0) λn=>kk n cs) (λt=>kk 1 [x]) (λp o=>kk 1 [x]) (λk n=>kk 1 [x]) () (λ_ _ _ _=>()) x
def k_bx (x:FV) (h:Hp):FR:=cellsF x λn cs=>newB h (.c n cs .any) λp h=>.ok (.ptr p 0) h
def k_al (n:Nat) (z:List FV) (h:Hp):FR:=newB h (.c n z .any) λp h=>.ok (.ptr p 0) h
def k_ext (i:Nat) (x:FV) (h:Hp):FR:=onTup (λcs=>bif' (Nat.blt i (lenL cs 0)) (.ok (lnth .any cs i) h) .no) x
def k_lenh (x:FV) (h:Hp):FR:=
 FV.rec (motive_1:=λ_=>FR) (motive_2:=λ_=>Unit) .no .no .no .no (.ok (.i .i64 0) h) .no .no (λa=>bif' (isStr a) .no (match lenA a with | some n=>.ok (.i .i64 n) h | none=>.no)) (λ_=>.no) (λ_ _ _=>.no) (λ_ _ _=>.no) (λ_ _ _=>.no) (λ_ _=>.no) (λ_ _=>.no) (λp o n c z=>.ok (.i .i64 (.ofNat n)) h) (λ_ _=>.no) (λ_=>.no) (λ_ _=>.no) (λ_ _=>.no) () (λ_ _ _ _=>()) x
def k_lens (x:FV) (h:Hp):FR:=onS (λl _=>.ok (.i .i64 (.ofNat l)) h) x
def k_ix (x i:FV) (h:Hp):FR:=
 onS (λl c=>onI (λ_ j=>onN (λj=>bif' (Nat.blt j l) (fN (Nat.mod (Nat.div c (p8 j)) 256) λm=>.ok (.i .u8 (.ofNat m)) h) .no) j) i) x
def k_ia (sz:Nat) (x i:FV) (h:Hp):FR:=
 onI (λ_ j=>FV.rec (motive_1:=λ_=>FR) (motive_2:=λ_=>Unit) .no .no .no .no .no .no .no (λa=>viaA (iaA a j sz) h) (λ_=>.no) (λ_ _ _=>.no) (λ_ _ _=>.no) (λ_ _ _=>.no) (λ_ _=>.no) (λ_ _=>.no) (λp o n c z=>onN (λj=>bif' (Nat.blt j n) (bif' (Nat.beq z sz) (fN (Nat.add o (Nat.mul j sz)) λo=>.ok (.ptr p o) h) .no) .no) j) (λ_ _=>.no) (λ_=>.no) (λ_ _=>.no) (λ_ _=>.no) () (λ_ _ _ _=>()) x) i
def k_iar (n sz:Nat) (x i:FV) (h:Hp):FR:=
 onI (λ_ j=>onN (λj=>bif' (Nat.blt j n) (k_fa (Nat.mul j sz) x h) .no) j) i
def k_ixv (n:Nat) (x i:FV) (h:Hp):FR:=
 onI (λ_ j=>onN (λj=>bif' (Nat.blt j n) (onAgg (λcs=>bif' (Nat.ble n (lenL cs 0)) (.ok (lnth .any cs j) h) .no) x) .no) j) i
def k_fld (off:Nat) (x:FV) (h:Hp):FR:=onAgg (λcs=>bif' (Nat.blt off (lenL cs 0)) (.ok (lnth .any cs off) h) .no) x
def k_fldn (off n:Nat) (x:FV) (h:Hp):FR:=onAgg (λcs=>bif' (Nat.ble (Nat.add off n) (lenL cs 0)) (.ok (.agg (takN .any n (drpN off cs))) h) .no) x
def k_eqp (neg:Bool) (x y:FV) (h:Hp):FR:=
 FV.rec (motive_1:=λ_=>FR) (motive_2:=λ_=>Unit) .no .no ((FV.rec (motive_1:=λ_=>FR) (motive_2:=λ_=>Unit) .no .no (.ok (.b (notB neg)) h) .no .no .no .no (λ_=>.no) (λ_=>.no) (λ_ _ _=>.no) (λ_ _ _=>.no) (λ_ _ _=>.no) (λ_ _=>.no) (λ_ _=>.no) (λ_ _ _ _ _=>.no) (λ_ _=>.no) (λ_=>.no) (λp o=>.ok (.b neg) h) (λ_ _=>.no) () (λ_ _ _ _=>()) y)) .no .no .no .no (λ_=>.no) (λ_=>.no) (λ_ _ _=>.no) (λ_ _ _=>.no) (λ_ _ _=>.no) (λ_ _=>.no) (λ_ _=>.no) (λ_ _ _ _ _=>.no) (λ_ _=>.no) (λ_=>.no) (λp o=>FV.rec (motive_1:=λ_=>FR) (motive_2:=λ_=>Unit) .no .no (.ok (.b neg) h) .no .no .no .no (λ_=>.no) (λ_=>.no) (λ_ _ _=>.no) (λ_ _ _=>.no) (λ_ _ _=>.no) (λ_ _=>.no) (λ_ _=>.no) (λ_ _ _ _ _=>.no) (λ_ _=>.no) (λ_=>.no) (λ_ _=>.no) (λ_ _=>.no) () (λ_ _ _ _=>()) y) (λ_ _=>.no) () (λ_ _ _ _=>()) x
def k_eqs (neg:Bool) (x y:FV) (h:Hp):FR:=onB (λa=>onB (λb=>.ok (.b (bif' neg (Bool.rec (motive:=λ_=>Bool) b (notB b) a) (Bool.rec (motive:=λ_=>Bool) (notB b) b a))) h) y) x
def k_bd (z:List FV) (ps:FPs) (s:Fr) (h:Hp):FR:=
 FPs.rec (motive:=λ_=>List FV->FR) (λz=>.ok (.agg z) h)
  (λo n x _ ih z=>cellsF (gO x s) λm cs=>bif' (Nat.beq m n) (bif' (Nat.ble (Nat.add o n) (lenL z 0)) (ih (layN .any cs o z)) .no) .no) ps z
def k_bsL (sz:Nat) (ps:FOs) (s:Fr) (k:List FV->FR):FR:=
 FOs.rec (motive:=λ_=>(List FV->FR)->FR) (λk=>k []) (λx _ ih k=>cellsF (gO x s) λm cs=>bif' (Nat.beq m sz) (ih λr=>k (appL cs r)) .no) ps k
def k_bs (n sz:Nat) (ps:FOs) (s:Fr) (h:Hp):FR:=
 k_bsL sz ps s λcs=>newB h (.c (Nat.mul n sz) cs .any) λp h=>.ok (.hsl p 0 n n sz) h
def bndF (s:Fr) (d:Nat) (x:FOo) (k:Nat->FR):FR:=FOo.rec (motive:=λ_=>FR) (k d) (λx=>onI (λ_ n=>onN k n) (gO x s)) x
def k_sls (lo hi:FOo) (x:FV) (s:Fr) (h:Hp):FR:=
 onS (λl c=>bndF s 0 lo λa=>bndF s l hi λb=>bif' (Nat.ble a b) (bif' (Nat.ble b l) (mkS (Nat.sub b a) (Nat.mod (Nat.div c (p8 a)) (p8 (Nat.sub b a))) h) .no) .no) x
def k_slh (sz:Nat) (lo hi:FOo) (x:FV) (s:Fr) (h:Hp):FR:=
 FV.rec (motive_1:=λ_=>FR) (motive_2:=λ_=>Unit) .no .no .no .no (bndF s 0 lo λa=>bndF s 0 hi λb=>bif' (Nat.beq a 0) (bif' (Nat.beq b 0) (.ok .esl h) .no) .no) .no .no (λa=>bif' (isStr a) .no (match lenA a with | some n=>bndF s 0 lo λl=>bndF s n hi λb=>viaA (slA a l b sz) h | none=>.no)) (λ_=>.no) (λ_ _ _=>.no) (λ_ _ _=>.no) (λ_ _ _=>.no) (λ_ _=>.no) (λ_ _=>.no) (λp o n c z=>bndF s 0 lo λa=>bndF s n hi λb=>bif' (Nat.beq z sz) (bif' (Nat.ble a b) (bif' (Nat.ble b c) (bif' (Nat.beq a c) (.ok (.x (.d (.sl []))) h) (fN (Nat.add o (Nat.mul a sz)) λo=>fN (Nat.sub b a) λn=>fN (Nat.sub c a) λc=>.ok (.hsl p o n c z) h)) .no) .no) .no) (λ_ _=>.no) (λ_=>.no) (λ_ _=>.no) (λ_ _=>.no) () (λ_ _ _ _=>()) x
def k_sla (n sz:Nat) (lo hi:FOo) (x:FV) (s:Fr) (h:Hp):FR:=
 onP (λp o=>cellsOf h p λm _ _=>bif' (Nat.ble (Nat.add o (Nat.mul n sz)) m) (bndF s 0 lo λa=>bndF s n hi λb=>bif' (Nat.ble a b) (bif' (Nat.ble b n) (bif' (Nat.beq a n) (.ok (.x (.d (.sl []))) h) (fN (Nat.add o (Nat.mul a sz)) λo=>fN (Nat.sub b a) λb=>fN (Nat.sub n a) λc=>.ok (.hsl p o b c sz) h)) .no) .no) .no) x
def bysF (l:Nat):Nat->List FV:=Nat.rec (motive:=λ_=>Nat->List FV) (λ_=>[]) (λ_ ih c=>.i .u8 (.ofNat (Nat.mod c 256)) :: ih (Nat.div c 256)) l
def fvss (l:List (List AV)):List FV:=List.rec (motive:=λ_=>List FV) [] (λa _ r=>appL (fvs a) r) l
def isSl:AV->Bool
 | .d (.sl _)=>true
 | _=>false
def elemsF (sz:Nat) (x:FV) (h:Hp) (kk:Nat->List FV->FR):FR:=
 FV.rec (motive_1:=λ_=>FR) (motive_2:=λ_=>Unit) .no .no .no .no (kk 0 []) .no .no (λa=>bif' (isSl a) (match elemsA [] sz a with | some l=>kk l.length (fvss l) | none=>.no) .no) (λ_=>.no) (λ_ _ _=>.no) (λ_ _ _=>.no) (λ_ _ _=>.no) (λ_ _=>.no) (λl c=>bif' (Nat.beq sz 1) (kk l (bysF l c)) .no) (λp o n c z=>cellsOf h p λm cs zz=>bif' (Nat.ble (Nat.add o (Nat.mul n sz)) m) (bif' (Nat.beq z sz) (kk n (takN zz (Nat.mul n sz) (drpN o cs))) .no) .no) (λ_ _=>.no) (λ_=>.no) (λ_ _=>.no) (λ_ _=>.no) () (λ_ _ _ _=>()) x
def k_app (sz by':Nat) (a x:FV) (h:Hp):FR:=
 elemsF sz x h λm es=>bif' (cellsB (Nat.mul m sz) es) (FV.rec (motive_1:=λ_=>FR) (motive_2:=λ_=>Unit) .no .no .no .no (bif' (Nat.ble (Nat.mul m by') 140737488355328) (bif' (Nat.ble m 140737488355328) (newB h (.c (Nat.mul m sz) es .any) λp h=>.ok (.hsl p 0 m m sz) h) .no) .no) .no .no (λ_=>.no) (λ_=>.no) (λ_ _ _=>.no) (λ_ _ _=>.no) (λ_ _ _=>.no) (λ_ _=>.no) (λ_ _=>.no) (λp o n c z=>bif' (Nat.beq o 0) (bif' (Nat.beq z sz) (cellsOf h p λq cs zz=>bif' (Nat.ble (Nat.mul n sz) q) (bif' (Nat.ble (Nat.mul (Nat.add n m) by') 140737488355328) (bif' (Nat.ble (Nat.add n m) 140737488355328) (fN (Nat.add n m) λmn=>newB (setB h p .dead) (.c (Nat.mul mn sz) (appL (takN zz (Nat.mul n sz) cs) es) .any) λp h=>.ok (.hsl p 0 mn mn sz) h) .no) .no) .no) .no) .no) (λ_ _=>.no) (λ_=>.no) (λ_ _=>.no) (λ_ _=>.no) () (λ_ _ _ _=>()) a) .no
def repB (m:Nat) (z:List FV):FB:=
 let g:FB:=.c (Nat.mul m (lenL z 0)) (Nat.rec (motive:=λ_=>List FV) [] (λ_ r=>appL z r) m) .any
 lcs g (λv r=>lcs (.c m [] v) (λ_ _=>g) r) z
def k_mks (sz by':Nat) (z:List FV) (n c:FV) (h:Hp):FR:=
 onI (λ_ l=>onI (λ_ m=>onN (λl=>onN (λm=>bif' (Nat.ble l m) (bif' (Nat.ble (Nat.mul m by') 140737488355328) (bif' (Nat.ble m 140737488355328)
  (newB h (repB m z) λp h=>.ok (.hsl p 0 l m sz) h) .no) .no) .no) m) l) c) n
def datB (x:FV):Bool:=FV.rec (motive_1:=λ_=>Bool) (motive_2:=λ_=>Unit) false false false false false (true) (true) (λ_=>false) (λ_=>false) (λ_ _ _=>false) (λ_ _ _=>false) (λ_ _ _=>false) (λ_ _=>false) (λl c=>true) (λ_ _ _ _ _=>false) (λ_ _=>false) (λt=>true) (λ_ _=>false) (λk n=>true) () (λ_ _ _ _=>()) x
def datsB (l:List FV):Bool:=List.rec (motive:=λ_=>Bool) true (λa _ ih=>bif' (datB a) ih false) l
def k_cpy (sz:Nat) (d x:FV) (h:Hp):FR:=
 onH (λp o n _ z'=>elemsF sz x h λm es=>bif' (datsB es) (bif' (Nat.beq z' sz) (bif' (Nat.ble m n) (cellsOf h p λq cs z=>bif' (Nat.ble (Nat.add o (Nat.mul n sz)) q) (fN m λm=>.ok (.i .i64 (.ofNat m)) (setB h p (.c q (layN z es o cs) z))) .no) .no) .no) .no) d
def eqS (l c:Nat) (y:FV):Bool:=FV.rec (motive_1:=λ_=>Bool) (motive_2:=λ_=>Unit) false false false false false false false (λ_=>false) (λ_=>false) (λ_ _ _=>false) (λ_ _ _=>false) (λ_ _ _=>false) (λ_ _=>false) (λl0 c0=>seq8 l c l0 c0) (λ_ _ _ _ _=>false) (λ_ _=>false) (λ_=>false) (λ_ _=>false) (λ_ _=>false) () (λ_ _ _ _=>()) y
def eqI (k:IntKind) (n:Int) (y:FV):Bool:=FV.rec (motive_1:=λ_=>Bool) (motive_2:=λ_=>Unit) false false false false false false false (λ_=>false) (λ_=>false) (λ_ _ _=>false) (λ_ _ _=>false) (λ_ _ _=>false) (λ_ _=>false) (λ_ _=>false) (λ_ _ _ _ _=>false) (λ_ _=>false) (λ_=>false) (λ_ _=>false) (λk' m=>bif' (Nat.beq (kN k) (kN k')) (ieq n m) false) () (λ_ _ _ _=>()) y
def eqB (t:Bool) (y:FV):Bool:=FV.rec (motive_1:=λ_=>Bool) (motive_2:=λ_=>Unit) false false false false false false false (λ_=>false) (λ_=>false) (λ_ _ _=>false) (λ_ _ _=>false) (λ_ _ _=>false) (λ_ _=>false) (λ_ _=>false) (λ_ _ _ _ _=>false) (λ_ _=>false) (λu=>Bool.rec (motive:=λ_=>Bool) (notB u) u t) (λ_ _=>false) (λ_ _=>false) () (λ_ _ _ _=>()) y
def keq1' (x y:FV):Bool:=FV.rec (motive_1:=λ_=>Bool) (motive_2:=λ_=>Unit) false false false false false false false (λ_=>false) (λ_=>false) (λ_ _ _=>false) (λ_ _ _=>false) (λ_ _ _=>false) (λ_ _=>false) (λl c=>eqS l c y) (λ_ _ _ _ _=>false) (λ_ _=>false) (λt=>eqB t y) (λ_ _=>false) (λk n=>eqI k n y) () (λ_ _ _ _=>()) x
def keqL' (a b:List FV):Bool:=List.rec (motive:=λ_=>List FV->Bool) (λb=>lcs true (λ_ _=>false) b) (λx _ ih b=>lcs false (λy r=>bif' (keq1' x y) (ih r) false) b) a b
def keq' (x y:FV):Bool:=FV.rec (motive_1:=λ_=>Bool) (motive_2:=λ_=>Unit) false false false false false false false (λ_=>false) (λ_=>false) (λ_ _ _=>false) (λ_ _ _=>false) (λ_ _ _=>false) (λ_ _=>false) (λl c=>eqS l c y) (λ_ _ _ _ _=>false) (λcs _=>FV.rec (motive_1:=λ_=>Bool) (motive_2:=λ_=>Unit) false false false false false false false (λ_=>false) (λ_=>false) (λ_ _ _=>false) (λ_ _ _=>false) (λ_ _ _=>false) (λ_ _=>false) (λ_ _=>false) (λ_ _ _ _ _=>false) (λds _=>keqL' cs ds) (λ_=>false) (λ_ _=>false) (λ_ _=>false) () (λ_ _ _ _=>()) y) (λt=>eqB t y) (λ_ _=>false) (λk n=>eqI k n y) () (λ_ _ _ _=>()) x
def fitC (kk:KC) (x:FV):Bool:=
 KC.rec (motive:=λ_=>Bool) (FV.rec (motive_1:=λ_=>Bool) (motive_2:=λ_=>Unit) false false false false false false false (λ_=>false) (λ_=>false) (λ_ _ _=>false) (λ_ _ _=>false) (λ_ _ _=>false) (λ_ _=>false) (λ_ _=>false) (λ_ _ _ _ _=>false) (λ_ _=>false) (λt=>true) (λ_ _=>false) (λ_ _=>false) () (λ_ _ _ _=>()) x) (FV.rec (motive_1:=λ_=>Bool) (motive_2:=λ_=>Unit) false false false false false false false (λ_=>false) (λ_=>false) (λ_ _ _=>false) (λ_ _ _=>false) (λ_ _ _=>false) (λ_ _=>false) (λl c=>Nat.ble l 9223372036854775807) (λ_ _ _ _ _=>false) (λ_ _=>false) (λ_=>false) (λ_ _=>false) (λ_ _=>false) () (λ_ _ _ _=>()) x) (λk'=>FV.rec (motive_1:=λ_=>Bool) (motive_2:=λ_=>Unit) false false false false false false false (λ_=>false) (λ_=>false) (λ_ _ _=>false) (λ_ _ _=>false) (λ_ _ _=>false) (λ_ _=>false) (λ_ _=>false) (λ_ _ _ _ _=>false) (λ_ _=>false) (λ_=>false) (λ_ _=>false) (λk n=>bif' (Nat.beq (kN k') (kN k)) (bif' (ile k'.min n) (ile n k'.max) false) false) () (λ_ _ _ _=>()) x) kk
def fitLF' (l:List KC):List FV->Bool:=List.rec (motive:=λ_=>List FV->Bool) (λy=>lcs true (λ_ _=>false) y) (λk _ ih y=>lcs false (λa b=>bif' (fitC k a) (ih b) false) y) l
def fits (kt:KT) (x:FV):Bool:=
 KT.rec (motive:=λ_=>Bool) (λag kk=>bif' ag (FV.rec (motive_1:=λ_=>Bool) (motive_2:=λ_=>Unit) false false false false false false false (λ_=>false) (λ_=>false) (λ_ _ _=>false) (λ_ _ _=>false) (λ_ _ _=>false) (λ_ _=>false) (λ_ _=>false) (λ_ _ _ _ _=>false) (λcs _=>fitLF' kk cs) (λ_=>false) (λ_ _=>false) (λ_ _=>false) () (λ_ _ _ _=>()) x) (List.rec (motive:=λ_=>Bool) false (λk r _=>List.rec (motive:=λ_=>Bool) (fitC k x) (λ_ _ _=>false) r) kk)) kt
def ktB (a b:KT):Bool:=decide (a = b)
def mget (es:Es) (k:FV) (z:FR) (f:FV->FR):FR:=Es.rec (motive:=λ_=>FR) z (λk' v _ _ ih=>bif' (keq' k' k) (f v) ih) es
def mput (v:FV) (k:FV) (ck:Nat) (es:Es) (c:Nat->Es->FR):FR:=
 Es.rec (motive:=λ_=>(Nat->Es->FR)->FR) (λc=>c (Nat.succ ck) (.cons k v ck .nil)) (λk' v' b r ih c=>bif' (keq' k' k) (c ck (.cons k' v b r)) (ih λn r=>c n (.cons k' v' b r))) es c
def k_mkm (kt:KT) (h:Hp):FR:=newB h (.m kt 0 .nil) λp h=>.ok (.mp p) h
def k_lk (kt:KT) (z:FV) (ok:Bool) (m k:FV) (h:Hp):FR:=
 let q:FR:=.ok (bif' ok (.tup [z,.b false]) z) h
 bif' (fits kt k) (onM q (λp=>mapLF h p λkt' es=>bif' (ktB kt' kt) (mget es k q λv=>.ok (bif' ok (.tup [v,.b true]) v) h) .no) m) .no
def shownB (x:FV):Bool:=FV.rec (motive_1:=λ_=>Bool) (motive_2:=λ_=>Unit) (false) (true) (true) (true) (true) (true) (true) (λa=>shown a) (λp=>true) (λf cs _=>true) (λf cs _=>true) (λt v _=>true) (λcs _=>false) (λl c=>true) (λp o n c z=>true) (λcs _=>true) (λt=>true) (λp o=>true) (λk n=>true) () (λ_ _ _ _=>()) x
def k_mu (kt:KT) (m k v:FV) (h:Hp):FR:=
 bif' (fits kt k) (bif' (shownB v) (onM .no (λp=>mapOfF h p λkt' ck es=>bif' (ktB kt' kt) (mput v k ck es λck es=>.ok (.tup []) (setB h p (.m kt ck es))) .no) m) .no) .no
def k_s2b (x:FV) (h:Hp):FR:=onS (λl c=>bif' (Nat.ble l 9223372036854775807) (.ok (.x (.d (.sl ((bys l c).map λc=>[.v (.int .u8 c.toNat)])))) h) .no) x
def idxF (l:Nat):Nat->Nat->Nat->Int:=Nat.rec (motive:=λ_=>Nat->Nat->Nat->Int) (λ_ _ _=>.negSucc 0) (λ_ ih c b n=>bif' (Nat.beq (Nat.mod c 256) b) (.ofNat n) (ih (Nat.div c 256) b (Nat.succ n))) l
def k_ixb (x c:FV) (h:Hp):FR:=onS (λl cd=>onI (λk n=>bif' (Nat.beq (kN k) 4) (onN (λb=>mkI .i64 (idxF l cd (Nat.mod b 256) 0) h) n) .no) c) x
def mgetB (es:Es) (k:FV) (z:FR) (f:FV->Nat->FR):FR:=Es.rec (motive:=λ_=>FR) z (λk' v c _ ih=>bif' (keq' k' k) (f v c) ih) es
def k_me (kt:KT) (z:FV) (m k:FV) (h:Hp):FR:=
 bif' (fits kt k) (onM .no (λp=>mapOfF h p λkt' ck es=>bif' (ktB kt' kt) (mgetB es k (mput z k ck es λck' es=>.ok (.tup [z,.i .i64 (.ofNat ck)]) (setB h p (.m kt ck' es))) λv c=>.ok (.tup [v,.i .i64 (.ofNat c)]) h) .no) m) .no
def mstF (t:Nat) (v:FV) (es:Es):(Es->FR)->FR:=Es.rec (motive:=λ_=>(Es->FR)->FR) (λ_=>.no) (λk' v' c r ih f=>bif' (Nat.beq c t) (f (.cons k' v c r)) (ih λr=>f (.cons k' v' c r))) es
def k_mes (m t v:FV) (h:Hp):FR:=
 bif' (shownB v) (onM .no (λp=>mapOfF h p λkt ck es=>onI (λ_ t=>onN (λt=>mstF t v es λes=>.ok (.tup []) (setB h p (.m kt ck es))) t) t) m) .no
def k_mlen (m:FV) (h:Hp):FR:=onM (.ok (.i .i64 0) h) (λp=>mapOfF h p λ_ _ es=>fN (Es.rec (motive:=λ_=>Nat) 0 (λ_ _ _ _ n=>Nat.succ n) es) λn=>.ok (.i .i64 (.ofNat n)) h) m
def k_isn (mp neg:Bool) (x:FV) (h:Hp):FR:=
 bif' mp (onM (.ok (.b (notB neg)) h) (λ_=>.ok (.b neg) h) x)
  (FV.rec (motive_1:=λ_=>FR) (motive_2:=λ_=>Unit) .no .no .no .no (.ok .ub h) .no .no (λa=>viaA (nilA false neg a) h) (λ_=>.no) (λ_ _ _=>.no) (λ_ _ _=>.no) (λ_ _ _=>.no) (λ_ _=>.no) (λ_ _=>.no) (λp o n c z=>Nat.rec (motive:=λ_=>FR) (.ok .ub h) (λ_ _=>.ok (.b neg) h) n) (λ_ _=>.no) (λ_=>.no) (λ_ _=>.no) (λ_ _=>.no) () (λ_ _ _ _=>()) x)
def k_eqi (neg:Bool) (x:FV) (h:Hp):FR:=FV.rec (motive_1:=λ_=>FR) (motive_2:=λ_=>Unit) .no .no .no .no .no .no (.ok (.b (notB neg)) h) (λ_=>.no) (λ_=>.no) (λ_ _ _=>.no) (λ_ _ _=>.no) (λt v _=>.ok (.b neg) h) (λ_ _=>.no) (λ_ _=>.no) (λ_ _ _ _ _=>.no) (λ_ _=>.no) (λ_=>.no) (λ_ _=>.no) (λ_ _=>.no) () (λ_ _ _ _=>()) x
def k_eqg (kt:KT) (neg:Bool) (x y:FV) (h:Hp):FR:=bif' (fits kt x) (bif' (fits kt y) (.ok (.b (bif' neg (notB (keq' x y)) (keq' x y))) h) .no) .no
def codeF (l:List FV):(Nat->FR)->FR:=
 List.rec (motive:=λ_=>(Nat->FR)->FR) (λk=>k 0) (λa _ ih k=>onI (λt n=>bif' (Nat.beq (kN t) 4) (onN (λn=>ih λc=>fN (Nat.add (Nat.mod n 256) (Nat.mul 256 c)) k) n) .no) a) l
def k_b2s (x:FV) (h:Hp):FR:=FV.rec (motive_1:=λ_=>FR) (motive_2:=λ_=>Unit) (.no) (.no) (.no) (.no) (elemsF 1 x h λm es=>codeF es λc=>mkS m c h) (.no) (.no) (λa=>elemsF 1 x h λm es=>codeF es λc=>mkS m c h) (λp=>.no) (λf cs _=>.no) (λf cs _=>.no) (λt v _=>.no) (λcs _=>.no) (λl c=>.no) (λp o n c z=>elemsF 1 x h λm es=>codeF es λc=>mkS m c h) (λcs _=>.no) (λt=>.no) (λp o=>.no) (λk n=>.no) () (λ_ _ _ _=>()) x
def k_tas (t':Nat) (z:FV) (ok:Bool) (x:FV) (h:Hp):FR:=
 let q:FR:=bif' ok (.ok (.tup [z,.b false]) h) .no
 FV.rec (motive_1:=λ_=>FR) (motive_2:=λ_=>Unit) .no .no .no .no .no .no (q) (λ_=>.no) (λ_=>.no) (λ_ _ _=>.no) (λ_ _ _=>.no) (λt v _=>bif' (Nat.beq t t') (.ok (bif' ok (.tup [v,.b true]) v) h) q) (λ_ _=>.no) (λ_ _=>.no) (λ_ _ _ _ _=>.no) (λ_ _=>.no) (λ_=>.no) (λ_ _=>.no) (λ_ _=>.no) () (λ_ _ _ _=>()) x
def k_mm (lt:Int->Int->Bool) (xs:FOs) (s:Fr) (h:Hp):FR:=
 lcs .no (λa r=>onI (λk n=>List.rec (motive:=λ_=>Int->FR) (λn=>mkI k n h) (λb _ ih n=>onI (λ_ m=>bif' (lt m n) (ih m) (ih n)) b) r n) a) (gOs xs s)
abbrev FC':=Nat->List FV->Hp->FR
def k_inv (F:FC') (tb:Tb) (x:FV) (args:List FV) (h:Hp):FR:=
 FV.rec (motive_1:=λ_=>FR) (motive_2:=λ_=>Unit) .no .no .no .no .no .no .no (λ_=>.no) (λ_=>.no) (λ_ _ _=>.no) (λ_ _ _=>.no) (λt v _=>Tb.rec (motive:=λ_=>FR) .no (λt' f _ ih=>bif' (Nat.beq t' t) (F f (v :: args) h) ih) tb) (λ_ _=>.no) (λ_ _=>.no) (λ_ _ _ _ _=>.no) (λ_ _=>.no) (λ_=>.no) (λ_ _=>.no) (λ_ _=>.no) () (λ_ _ _ _=>()) x
def k_callv (F:FC') (okf:Nat->Bool) (g:FV) (args:List FV) (h:Hp):FR:=
 FV.rec (motive_1:=λ_=>FR) (motive_2:=λ_=>Unit) .no .no .no .no .no .no .no (λ_=>.no) (λ_=>.no) (λf cs _=>bif' (okf f) (F f (appL args cs) h) .no) (λf cs _=>bif' (okf f) (F f (appL cs args) h) .no) (λ_ _ _=>.no) (λ_ _=>.no) (λ_ _=>.no) (λ_ _ _ _ _=>.no) (λ_ _=>.no) (λ_=>.no) (λ_ _=>.no) (λ_ _=>.no) () (λ_ _ _ _=>()) g
def k_rng (m:FV) (h:Hp):FR:=onM .no (λp=>mapOfF h p λ_ ck _=>newB h (.it p ck [] ck) λq h=>.ok (.ptr q 0) h) m
def inN (n:Nat) (l:List Nat):Bool:=List.rec (motive:=λ_=>Bool) false (λm _ ih=>bif' (Nat.beq n m) true ih) l
def lastN (l:List Nat) (k:Nat->FR):FR:=List.rec (motive:=λ_=>FR) .no (λn r ih=>List.rec (motive:=λ_=>FR) (k n) (λ_ _ _=>ih) r) l
def mborn (es:Es) (b:Nat) (f:FV->FV->FR):FR:=Es.rec (motive:=λ_=>FR) .no (λk v c _ ih=>bif' (Nat.beq c b) (f k v) ih) es
def k_ent (x:FV) (h:Hp):FR:=onP (λq o=>bif' (Nat.beq o 0) (iterOf h q λp _ seen last=>mapOfF h p λ_ ck es=>bif' (Nat.beq ck last) (lastN seen λb=>mborn es b λk v=>.ok (.tup [k,v]) h) .no) .no) x
def appN (l:List Nat) (n:Nat):List Nat:=List.rec (motive:=λ_=>List Nat) [n] (λa _ ih=>a :: ih) l
def k_nx (x:FV) (h:Hp):FR:=onP (λq o=>bif' (Nat.beq o 0) (iterOf h q λp since seen _=>mapOfF h p λ_ ck es =>
 Es.rec (motive:=λ_=>FR) (.ok (.tup [.b false]) h) (λk v c _ ih=>bif' (inN c seen) ih (.ok (.tup [.b true,k,v]) (setB h q (.it p since (appN seen c) ck)))) es) .no) x
def evFK (F:FC') (okf:Nat->Bool) (k:FK):Fr->Hp->FR:=
 FK.rec (motive:=λ_=>Fr->Hp->FR) (λ_ _=>.no)
  (λx s=>k_s2b (gO x s))
  (λx c s=>k_ixb (gO x s) (gO c s))
  (λkt z m k s=>k_me kt z (gO m s) (gO k s))
  (λm st v s=>k_mes (gO m s) (gO st s) (gO v s))
  (λx s=>k_rng (gO x s))
  (λx s=>k_ent (gO x s))
  (λx s=>k_nx (gO x s))
  (λsz by' z n c s=>k_mks sz by' z (gO n s) (gO c s))
  (λsz d x s=>k_cpy sz (gO d s) (gO x s))
  (λkt _=>k_mkm kt)
  (λkt z ok m k s=>k_lk kt z ok (gO m s) (gO k s))
  (λkt m k v s=>k_mu kt (gO m s) (gO k s) (gO v s))
  (λmp neg x s=>k_isn mp neg (gO x s))
  (λneg x s=>k_eqi neg (gO x s))
  (λkt neg x y s=>k_eqg kt neg (gO x s) (gO y s))
  (λx s=>k_b2s (gO x s))
  (λt x s h=>.ok (.ifc t (gO x s)) h)
  (λt z ok x s=>k_tas t z ok (gO x s))
  (λtb x args s=>k_inv F tb (gO x s) (gOs args s))
  (λf caps s h=>.ok (.fn f (gOs caps s)) h)
  (λf caps s h=>.ok (.fnb f (gOs caps s)) h)
  (λx s=>k_mlen (gO x s))
  (λxs s=>k_mm ilt xs s)
  (λxs s=>k_mm (λa b=>ilt b a) xs s)
  (λsz by' a x s=>k_app sz by' (gO a s) (gO x s))
  (λlo hi x s=>k_sls lo hi (gO x s) s)
  (λsz lo hi x s=>k_slh sz lo hi (gO x s) s)
  (λn sz lo hi x s=>k_sla n sz lo hi (gO x s) s)
  (λn sz ps s=>k_bs n sz ps s)
  (λz ps s=>k_bd z ps s)
  (λneg x y s=>k_eqs neg (gO x s) (gO y s))
  (λneg x y s=>k_eqp neg (gO x s) (gO y s))
  (λg args s=>k_callv F okf (gO g s) (gOs args s))
  (λoff n x s=>k_fldn off n (gO x s))
  (λoff x s=>k_fld off (gO x s))
  (λn x i s=>k_ixv n (gO x s) (gO i s))
  (λn sz x i s=>k_iar n sz (gO x s) (gO i s))
  (λsz x i s=>k_ia sz (gO x s) (gO i s))
  (λx i s=>k_ix (gO x s) (gO i s))
  (λx s=>k_lens (gO x s))
  (λx s=>k_lenh (gO x s))
  (λi x s=>k_ext i (gO x s))
  (λx s=>k_bx (gO x s))
  (λn z _=>k_al n z)
  (λop x s=>unK op (gO x s))
  (λk x s=>k_cvi k (gO x s))
  (λx s=>k_nc (gO x s))
  (λn x v s=>k_stn n (gO x s) (gO v s))
  (λx v s=>k_st (gO x s) (gO v s))
  (λn x s=>k_ldn n (gO x s))
  (λx s=>k_ld (gO x s))
  (λf args s=>F f (gOs args s))
  (λc a b s=>k_pick (gO c s) (gO a s) (gO b s))
  (λoff x s=>k_fa off (gO x s))
  (λop x y s=>binK op (gO x s) (gO y s))
  (λx s h=>.ok (gO x s) h) k
end
noncomputable section
def pEq (p q:Pth):Bool:=Nat.beq (num p) (num q)
def inL (p:Pth) (l:Lg):Bool:=Lg.rec (motive:=λ_=>Bool) false (λq _ ih=>bif' (pEq p q) true ih) l
def disL (a b:Lg):Bool:=Lg.rec (motive:=λ_=>Bool) true (λp _ ih=>bif' (inL p b) false ih) a
def appLg (a b:Lg):Lg:=Lg.rec (motive:=λ_=>Lg) b (λp _ ih=>.cons p ih) a
def outN (n m:Nat) (a:Lg):Bool:=Lg.rec (motive:=λ_=>Bool) true (λp _ ih=>bif' (bif' (Nat.blt (num p) n) true (Nat.ble m (num p))) ih false) a
def ltL (n:Nat) (a:Lg):Bool:=Lg.rec (motive:=λ_=>Bool) true (λp _ ih=>bif' (Nat.blt (num p) n) ih false) a
def nilL (a:Lg):Bool:=Lg.rec (motive:=λ_=>Bool) true (λ_ _ _=>false) a
def clsB (c:Nat) (sg:Lg) (n m:Nat):Bool:=bif' (Nat.ble c 1) (bif' (nilL sg) (Nat.beq n m) false) (bif' (Nat.ble c 2) (nilL sg) true)
def nmOf (x:FV):Lg:=FV.rec (motive_1:=λ_=>Lg) (motive_2:=λ_=>Unit) .nil .nil .nil .nil .nil .nil .nil (λ_=>.nil) (λp=>.cons p .nil) (λ_ _ _=>.nil) (λ_ _ _=>.nil) (λ_ _ _=>.nil) (λ_ _=>.nil) (λ_ _=>.nil) (λp o n c z=>.cons p .nil) (λ_ _=>.nil) (λ_=>.nil) (λp o=>.cons p .nil) (λ_ _=>.nil) () (λ_ _ _ _=>()) x
inductive Rd where
 | no
 | one (x:FO)
 | two (x y:FO)
def rdOfF (r:Rd) (s:Fr):Lg:=Rd.rec (motive:=λ_=>Lg) .nil (λx=>nmOf (gO x s)) (λx y=>appLg (nmOf (gO x s)) (nmOf (gO y s))) r
inductive Rc where
 | nil
 | cons (rd sg:Lg) (n m:Nat) (r:Rc)
def rcAt {β:Type} (d:β) (k:Lg->Lg->Nat->Nat->β) (r:Rc):Nat->β:=
 Rc.rec (motive:=λ_=>Nat->β) (λ_=>d) (λrd sg n m _ ih i=>Nat.rec (motive:=λ_=>β) (k rd sg n m) (λi _=>ih i) i) r
inductive Nl where
 | nil
 | cons (n:Nat) (r:Nl)
def chkS (rs:Rc) (rd sg:Lg) (l:Nl):Bool:=
 Nl.rec (motive:=λ_=>Bool) true (λi _ ih=>bif' (rcAt false (λrd' sg' n m=>bif' (disL rd sg') (bif' (outN n m rd) (bif' (disL sg rd') (bif' (disL sg sg') (outN n m sg) false) false) false) false) rs i) ih false) l
def killL (l:Lg) (h:Hp):Hp:=Lg.rec (motive:=λ_=>Hp) h (λp _ ih=>onHp ih λt n lg=>.mk (hset .dead p t) n lg) l
def nmsFrom (n m:Nat):Lg:=Nat.rec (motive:=λ_=>Nat->Lg) (λ_=>.nil) (λ_ ih n=>.cons (pth n) (ih (Nat.succ n))) (Nat.sub m n) n
def wrsOf (rs:Rc) (l:Nl):Lg:=Nl.rec (motive:=λ_=>Lg) .nil (λi _ ih=>rcAt .nil (λ_ sg n m=>appLg sg (appLg (nmsFrom n m) ih)) rs i) l
def restL (l:Lg) (h0 h:Hp):Hp:=onHp h0 λt0 _ _=>Lg.rec (motive:=λ_=>Hp) h (λp _ ih=>onHp ih λt n lg=>.mk (hset (hget p t0) p t) n lg) l
def chkC (rs:Rc) (sg:Lg) (l:Nl):Bool:=
 Nl.rec (motive:=λ_=>Bool) true (λi _ ih=>bif' (rcAt false (λrd' sg' n m=>bif' (disL sg rd') (bif' (disL sg sg') (outN n m sg) false) false) rs i) ih false) l
inductive FD where
 | no
 | ok (n:Nat)
def putD (d:FD) (v:FV):Fr->Fr:=FD.rec (motive:=λ_=>Fr->Fr) (λs=>s) (λn s=>ap (λf=>f v s) (sls n)) d
inductive FG where
 | no
 | ok (n:Nat) (t:Bool)
inductive FQ where
 | s (c:Nat) (rd:Rd) (l:Nl)
 | c (l:Nl)
inductive FIs where
 | nil
 | g (d:FD) (g:FG) (k:FK) (r:FIs)
 | n (k:FK) (r:FIs)
 | c (d:Nat) (k:FK) (r:FIs)
 | mc (d:Nat) (v:FV) (r:FIs)
 | mt (d n:Nat) (r:FIs)
inductive FJs where
 | nil
 | cons (d:FD) (g:FG) (k:FK) (q:FQ) (r:FJs)
inductive FLk where
 | nil
 | cons (d:Nat) (k:FK) (r:FLk)
inductive FSs where
 | nil
 | cons (d:FD) (k:FK) (re:FLk) (r:FSs)
inductive FC where
 | skip
 | no
 | reg (l:FIs)
 | sreg (l:FSs)
 | mpp (kt:KT) (d1 d2 d3 d4 m k:Nat) (l:FIs)
 | dreg (l:FJs)
 | seq (a b:FC)
 | cond (x:FO) (a b:FC)
 | block (id:Nat) (c:FC)
 | loop (c:FC)
 | exit (id:Nat)
 | ret
def guard (g:FG) (s:Fr) (y n:FX):FX:=
 FG.rec (motive:=λ_=>FX) y (λi t=>FV.rec (motive_1:=λ_=>FX) (motive_2:=λ_=>Unit) .no .no .no .no .no .no .no (λ_=>.no) (λ_=>.no) (λ_ _ _=>.no) (λ_ _ _=>.no) (λ_ _ _=>.no) (λcs _=>lcs n (λ_ _=>.no) cs) (λ_ _=>.no) (λ_ _ _ _ _=>.no) (λ_ _=>.no) (λu=>bif' u (bif' t y n) (bif' t n y)) (λ_ _=>.no) (λ_ _=>.no) () (λ_ _ _ _=>()) (ap (λf=>f s) (slg i))) g
def onBX (kk:Bool->FX) (x:FV):FX:=FV.rec (motive_1:=λ_=>FX) (motive_2:=λ_=>Unit) .no .no .no .no .no .no .no (λ_=>.no) (λ_=>.no) (λ_ _ _=>.no) (λ_ _ _=>.no) (λ_ _ _=>.no) (λ_ _=>.no) (λ_ _=>.no) (λ_ _ _ _ _=>.no) (λ_ _=>.no) (λt=>kk t) (λ_ _=>.no) (λ_ _=>.no) () (λ_ _ _ _=>()) x
def onR (k:FV->Hp->FX) (r:FR):FX:=FR.rec (motive:=λ_=>FX) .no k r
section
variable (F:FC') (okf:Nat->Bool)
def fIs (l:FIs):Fr->Hp->FX:=
 FIs.rec (motive:=λ_=>Fr->Hp->FX) (λs h=>.ok .nrm s h)
  (λd g k _ ih s h=>guard g s (onR (λv h=>ih (putD d v s) h) (evFK F okf k s h)) (ih (putD d (.tup []) s) h))
  (λk _ ih s h=>onR (λ_ h=>ih s h) (evFK F okf k s h))
  (λd k _ ih s h=>onR (λv h=>ih (ap (λf=>f v s) (sls d)) h) (evFK F okf k s h))
  (λd v _ ih s h=>ih (ap (λf=>f v s) (sls d)) h)
  (λd n _ ih s h=>ih (ap (λf=>f (ap (λf=>f s) (slg n)) s) (sls d)) h) l
def noLg (h:Hp):Hp:=onHp h λt n _=>.mk t n .nil
def fJs (l:FJs):Rc->Lg->Fr->Hp->FX:=
 FJs.rec (motive:=λ_=>Rc->Lg->Fr->Hp->FX) (λ_ lg s h=>onHp h λt n _=>.ok .nrm s (.mk t n lg))
  (fun d g k q _ ih rs lg s h =>
    guard g s
     (FQ.rec (motive := fun _ => FX)
       (λc rd l=>onHp h λ_ n _=>onR (λv h'=>onHp h' λt m sg=>bif' (ltL n (rdOfF rd s)) (bif' (clsB c sg n m) (bif' (chkS rs (rdOfF rd s) sg l) (ih (.cons (rdOfF rd s) sg n m rs) (appLg sg lg) (putD d v s) (.mk t m .nil)) .no) .no) .no) (evFK F okf k s h))
       (λl=>onHp h λ_ n _=>onR (λv h'=>onHp (restL (wrsOf rs l) h h') λt m sg=>bif' (chkC rs sg l) (ih (.cons .nil sg n m rs) (appLg sg lg) (putD d v s) (.mk t m .nil)) .no) (evFK F okf k s (killL (wrsOf rs l) h))) q)
     (ih (onHp h λ_ n _=>.cons .nil .nil n n rs) lg (putD d (.tup []) s) h)) l
def onX3 (k:FE->Fr->Hp->FX) (r:FX):FX:=FX.rec (motive:=λ_=>FX) .no k r
def fLoop (f:Fr->Hp->FX) (n:Nat):Fr->Hp->FX:=
 Nat.rec (motive:=λ_=>Fr->Hp->FX) (λ_ _=>.no) (λ_ ih s h=>onX3 (λe s h=>FE.rec (motive:=λ_=>FX) (ih s h) (.ok .ret s h) (λid=>.ok (.ext id) s h) e) (f s h)) n
def isC0 (y:FV):Bool:=FV.rec (motive_1:=λ_=>Bool) (motive_2:=λ_=>Unit) false false true false false false false (λ_=>false) (λ_=>false) (λ_ _ _=>false) (λ_ _ _=>false) (λ_ _ _=>false) (λ_ _=>false) (λ_ _=>false) (λ_ _ _ _ _=>false) (λ_ _=>false) (λ_=>false) (λ_ _=>false) (λ_ _=>false) () (λ_ _ _ _=>()) y
def isC1 (y:FV):Bool:=FV.rec (motive_1:=λ_=>Bool) (motive_2:=λ_=>Unit) false false false true false false false (λ_=>false) (λ_=>false) (λ_ _ _=>false) (λ_ _ _=>false) (λ_ _ _=>false) (λ_ _=>false) (λ_ _=>false) (λ_ _ _ _ _=>false) (λ_ _=>false) (λ_=>false) (λ_ _=>false) (λ_ _=>false) () (λ_ _ _ _=>()) y
def isC2 (y:FV):Bool:=FV.rec (motive_1:=λ_=>Bool) (motive_2:=λ_=>Unit) false false false false true false false (λ_=>false) (λ_=>false) (λ_ _ _=>false) (λ_ _ _=>false) (λ_ _ _=>false) (λ_ _=>false) (λ_ _=>false) (λ_ _ _ _ _=>false) (λ_ _=>false) (λ_=>false) (λ_ _=>false) (λ_ _=>false) () (λ_ _ _ _=>()) y
def isC3 (y:FV):Bool:=FV.rec (motive_1:=λ_=>Bool) (motive_2:=λ_=>Unit) false false false false false false true (λ_=>false) (λ_=>false) (λ_ _ _=>false) (λ_ _ _=>false) (λ_ _ _=>false) (λ_ _=>false) (λ_ _=>false) (λ_ _ _ _ _=>false) (λ_ _=>false) (λ_=>false) (λ_ _=>false) (λ_ _=>false) () (λ_ _ _ _=>()) y
def peq (p q:Pth):Bool:=Nat.beq (num p) (num q)
def feq1 (x y:FV):Bool:=FV.rec (motive_1:=λ_=>Bool) (motive_2:=λ_=>Unit) false false (isC0 y) (isC1 y) (isC2 y) false (isC3 y) (λ_=>false)
 (λp=>FV.rec (motive_1:=λ_=>Bool) (motive_2:=λ_=>Unit) false false false false false false false (λ_=>false) (λq=>peq p q) (λ_ _ _=>false) (λ_ _ _=>false) (λ_ _ _=>false) (λ_ _=>false) (λ_ _=>false) (λ_ _ _ _ _=>false) (λ_ _=>false) (λ_=>false) (λ_ _=>false) (λ_ _=>false) () (λ_ _ _ _=>()) y)
 (λ_ _ _=>false) (λ_ _ _=>false) (λ_ _ _=>false) (λ_ _=>false)
 (λl c=>FV.rec (motive_1:=λ_=>Bool) (motive_2:=λ_=>Unit) false false false false false false false (λ_=>false) (λ_=>false) (λ_ _ _=>false) (λ_ _ _=>false) (λ_ _ _=>false) (λ_ _=>false) (λl' c'=>bif' (Nat.beq l l') (Nat.beq c c') false) (λ_ _ _ _ _=>false) (λ_ _=>false) (λ_=>false) (λ_ _=>false) (λ_ _=>false) () (λ_ _ _ _=>()) y)
 (λp o n c z=>FV.rec (motive_1:=λ_=>Bool) (motive_2:=λ_=>Unit) false false false false false false false (λ_=>false) (λ_=>false) (λ_ _ _=>false) (λ_ _ _=>false) (λ_ _ _=>false) (λ_ _=>false) (λ_ _=>false) (λp' o' n' c' z'=>bif' (peq p p') (bif' (Nat.beq o o') (bif' (Nat.beq n n') (bif' (Nat.beq c c') (Nat.beq z z') false) false) false) false) (λ_ _=>false) (λ_=>false) (λ_ _=>false) (λ_ _=>false) () (λ_ _ _ _=>()) y)
 (λ_ _=>false)
 (λt=>eqB t y)
 (λp o=>FV.rec (motive_1:=λ_=>Bool) (motive_2:=λ_=>Unit) false false false false false false false (λ_=>false) (λ_=>false) (λ_ _ _=>false) (λ_ _ _=>false) (λ_ _ _=>false) (λ_ _=>false) (λ_ _=>false) (λ_ _ _ _ _=>false) (λ_ _=>false) (λ_=>false) (λp' o'=>bif' (peq p p') (Nat.beq o o') false) (λ_ _=>false) () (λ_ _ _ _=>()) y)
 (λk n=>eqI k n y) () (λ_ _ _ _=>()) x
def feqL (a b:List FV):Bool:=List.rec (motive:=λ_=>List FV->Bool) (λb=>lcs true (λ_ _=>false) b) (λx _ ih b=>lcs false (λy r=>bif' (feq1 x y) (ih r) false) b) a b
def feq (x y:FV):Bool:=FV.rec (motive_1:=λ_=>Bool) (motive_2:=λ_=>Unit) (feq1 x y) (feq1 x y) (feq1 x y) (feq1 x y) (feq1 x y) (feq1 x y) (feq1 x y) (λ_=>false) (λ_=>feq1 x y) (λ_ _ _=>false) (λ_ _ _=>false) (λ_ _ _=>false) (λ_ _=>false) (λ_ _=>feq1 x y) (λ_ _ _ _ _=>feq1 x y)
 (λcs _=>FV.rec (motive_1:=λ_=>Bool) (motive_2:=λ_=>Unit) false false false false false false false (λ_=>false) (λ_=>false) (λ_ _ _=>false) (λ_ _ _=>false) (λ_ _ _=>false) (λ_ _=>false) (λ_ _=>false) (λ_ _ _ _ _=>false) (λds _=>feqL cs ds) (λ_=>false) (λ_ _=>false) (λ_ _=>false) () (λ_ _ _ _=>()) y)
 (λ_=>feq1 x y) (λ_ _=>feq1 x y) (λ_ _=>feq1 x y) () (λ_ _ _ _=>()) x
def slot (n:Nat) (s:Fr):FV:=ap (λf=>f s) (slg n)
def slotS (n:Nat) (v:FV) (s:Fr):Fr:=ap (λf=>f v s) (sls n)
def endM (d1 d2 d3 d4:Nat) (x y c:FV) (s:Fr):Fr:=slotS d4 c (slotS d3 (.tup [x,c]) (slotS d2 y (slotS d1 x s)))
def k_mpp (kt:KT) (p:Pth) (k:FV) (h:Hp):FR:=
 mapOfF h p λkt' ck es=>bif' (ktB kt' kt) (mgetB es k
  (mput (.i .i64 0) k ck es λck' es=>mstF ck (.i .i64 1) es λes=>.ok (.tup [.i .i64 0,.i .i64 1,.i .i64 (.ofNat ck)]) (setB h p (.m kt ck' es)))
  λv c=>onI (λt n=>bif' (Nat.beq (kN t) 3) (mstF c (.i .i64 (wr .i64 (iadd n 1))) es λes=>.ok (.tup [.i .i64 n,.i .i64 (wr .i64 (iadd n 1)),.i .i64 (.ofNat c)]) (setB h p (.m kt ck es))) .no) v) .no
def onT3 (k:FV->FV->FV->FX) (x:FV):FX:=FV.rec (motive_1:=λ_=>FX) (motive_2:=λ_=>Unit) .no .no .no .no .no .no .no (λ_=>.no) (λ_=>.no) (λ_ _ _=>.no) (λ_ _ _=>.no) (λ_ _ _=>.no) (λcs _=>lcs .no (λa r=>lcs .no (λb r=>lcs .no (λc _=>k a b c) r) r) cs) (λ_ _=>.no) (λ_ _ _ _ _=>.no) (λ_ _=>.no) (λ_=>.no) (λ_ _=>.no) (λ_ _=>.no) () (λ_ _ _ _=>()) x
def onMX (kk:Pth->FX) (x:FV):FX:=FV.rec (motive_1:=λ_=>FX) (motive_2:=λ_=>Unit) .no .no .no .no .no .no .no (λ_=>.no) (λp=>kk p) (λ_ _ _=>.no) (λ_ _ _=>.no) (λ_ _ _=>.no) (λ_ _=>.no) (λ_ _=>.no) (λ_ _ _ _ _=>.no) (λ_ _=>.no) (λ_=>.no) (λ_ _=>.no) (λ_ _=>.no) () (λ_ _ _ _=>()) x
def fMpp (kt:KT) (d1 d2 d3 d4 m k:Nat) (l:FIs) (s:Fr) (h:Hp):FX:=
 onX3 (λ_ s h=>bif' (fits kt (slot k s)) (onMX (λp=>onR (λv h=>onT3 (λx y c=>.ok .nrm (endM d1 d2 d3 d4 x y c s) h) v) (k_mpp kt p (slot k s) h)) (slot m s)) .no) (fIs F okf l s h)
def reOk (re:FLk) (s:Fr) (h:Hp):Bool:=
 FLk.rec (motive:=λ_=>Bool) true (λd k _ ih=>FR.rec (motive:=λ_=>Bool) false (λv _=>bif' (feq v (slot d s)) ih false) (evFK F okf k s h)) re
def fSs (l:FSs):Fr->Hp->FX:=
 FSs.rec (motive:=λ_=>Fr->Hp->FX) (λs h=>.ok .nrm s h)
  (λd k re _ ih s h=>onR (λv h=>bif' (reOk F okf re (putD d v s) h) (ih (putD d v s) h) .no) (evFK F okf k s h)) l
def fA (n:Nat) (c:FC):Fr->Hp->FX:=
 FC.rec (motive:=λ_=>Fr->Hp->FX) (λs h=>.ok .nrm s h) (λ_ _=>.no) (fIs F okf) (fSs F okf) (fMpp F okf)
  (λl s h=>onHp h λ_ _ lg=>fJs F okf l .nil lg s (noLg h))
  (λ_ _ a b s h=>onX3 (λe s h=>FE.rec (motive:=λ_=>FX) (b s h) (.ok .ret s h) (λid=>.ok (.ext id) s h) e) (a s h))
  (λx _ _ a b s h=>onBX (λt=>bif' t (a s h) (b s h)) (gO x s))
  (λid _ c s h=>onX3 (λe s h=>FE.rec (motive:=λ_=>FX) (.ok .nrm s h) (.ok .ret s h) (λid'=>bif' (Nat.beq id' id) (.ok .nrm s h) (.ok (.ext id') s h)) e) (c s h))
  (λ_ c=>fLoop c n)
  (λid s h=>.ok (.ext id) s h) (λs h=>.ok .ret s h) c
end
inductive FRs where
 | nil
 | t (n:Nat) (r:FRs)
 | c (p:Nat) (n:Nat) (ag:Bool) (r:FRs)
inductive FF where
 | no
 | ok (c:FC) (rs:FRs)
def resF (rs:FRs) (s:Fr) (h:Hp):(List FV->FR)->FR:=
 FRs.rec (motive:=λ_=>(List FV->FR)->FR) (λk=>k []) (λp _ ih k=>ih λr=>k (ap (λf=>f s) (slg p) :: r))
  (λp n ag _ ih k=>FR.rec (motive:=λ_=>FR) .no (λv _=>ih λr=>k (v :: r)) (bif' ag (k_ldn n (ap (λf=>f s) (slg p)) h) (k_ld (ap (λf=>f s) (slg p)) h))) rs
def frc:List RC->FRs
 | []=>.nil
 | .t n :: r=>.t n (frc r)
 | .c a n g :: r=>.c a n g (frc r)
def okR (n:Nat):RC->Bool
 | .t m=>Nat.blt m n
 | .c a k g=>Nat.blt a n && (g || k == 1)
def resV (l:List FV):FV:=lcs (.tup []) (λa r=>lcs a (λ_ _=>.tup l) r) l
def mkT (args:List FV):Fr:=List.rec (motive:=λ_=>Nat->Fr->Fr) (λ_ t=>t) (λa _ ih n t=>ih (Nat.succ n) (ap (λf=>f a t) (sls n))) args 0 fE
def evFF (X:FC'->FC') (E:Nat->FF) (okf:Nat->Bool) (lp n:Nat):FC':=
 Nat.rec (motive:=λ_=>FC') (λ_ _ _=>.no)
  (fun _ ih f args h => X (fun f args h => FF.rec (motive := fun _ => FR) .no
    (λc rs=>bif' (Nat.ble (lenL args 0) 512) (FX.rec (motive:=λ_=>FR) .no (λe s h=>FE.rec (motive:=λ_=>FR) (resF rs s h λl=>.ok (resV l) h) (resF rs s h λl=>.ok (resV l) h) (λ_=>.no) e) (fA ih okf lp c (mkT args) h)) .no) (E f)) f args h) n
def fo:Opd->FO
 | .t n=>.t n
 | .c x=>.c (fvA x)
def fos:List Opd->FOs
 | []=>.nil
 | x :: l=>.cons (fo x) (fos l)
def foo:Option Opd->FOo
 | none=>.no
 | some x=>.ok (fo x)
def fps:List (Nat × Nat × Opd)->FPs
 | []=>.nil
 | (o,n,x) :: l=>.cons o n (fo x) (fps l)
def ftb:List (TypeId × FuncId)->Tb
 | []=>.nil
 | (t,f) :: l=>.cons t f (ftb l)
def fk:K->FK
 | .mv x=>.mv (fo x)
 | .pick c a b=>.pick (fo c) (fo a) (fo b)
 | .al z=>.al z.length (fvs z)
 | .bx x=>.bx (fo x)
 | .bd z ps=>.bd (fvs z) (fps ps)
 | .bs .hp _ sz ps=>.bs ps.length sz (fos ps)
 | .ld x n ag=>bif ag then .ldn n (fo x) else bif n == 1 then .ld (fo x) else .no
 | .st x v n=>bif n == 1 then .st (fo x) (fo v) else .stn n (fo x) (fo v)
 | .nc x=>.nc (fo x)
 | .bin op x y=>.bin op (fo x) (fo y)
 | .eqs neg x y=>.eqs neg (fo x) (fo y)
 | .eqp neg x y=>.eqp neg (fo x) (fo y)
 | .un op x=>.un op (fo x)
 | .cvi k x=>.cvi k (fo x)
 | .fa x off=>.fa off (fo x)
 | .fld x off n ag=>bif ag then .fldn off n (fo x) else bif n == 1 then .fld off (fo x) else .no
 | .ia x i sz=>.ia sz (fo x) (fo i)
 | .iar x i n sz=>.iar n sz (fo x) (fo i)
 | .ix x i=>.ix (fo x) (fo i)
 | .ixv x i n=>.ixv n (fo x) (fo i)
 | .sli str x lo hi sz=>bif str then .sls (foo lo) (foo hi) (fo x) else .slh sz (foo lo) (foo hi) (fo x)
 | .sla x lo hi n sz=>bif Nat.ble n 140737488355328 then .sla n sz (foo lo) (foo hi) (fo x) else .no
 | .ext x i=>.ext i (fo x)
 | .call f args=>.call f (fos args)
 | .callv g args=>.callv (fo g) (fos args)
 | .inv tb x args=>.inv (ftb tb) (fo x) (fos args)
 | .len str x=>bif str then .lens (fo x) else .lenh (fo x)
 | .app .hp _ sz by' a x=>.app sz by' (fo a) (fo x)
 | .mn xs=>.mn (fos xs)
 | .mx xs=>.mx (fos xs)
 | .mkf f caps=>.mkf f (fos caps)
 | .mkb f caps=>.mkb f (fos caps)
 | .mks _ _ sz by' z n c=>.mks sz by' (fvs z) (fo n) (fo c)
 | .cpy sz x y=>.cpy sz (fo x) (fo y)
 | .mkm kt=>.mkm kt
 | .lk kt z m k ok=>.lk kt (fvA z) ok (fo m) (fo k)
 | .mu kt m k v=>.mu kt (fo m) (fo k) (fo v)
 | .isn mp neg x=>.isn mp neg (fo x)
 | .eqi neg x=>.eqi neg (fo x)
 | .eqg kt neg x y=>.eqg kt neg (fo x) (fo y)
 | .b2s x=>.b2s (fo x)
 | .mki t x=>.mki t (fo x)
 | .tas t z x ok=>.tas t (fvA z) ok (fo x)
 | .mlen x=>.mlen (fo x)
 | .s2b _ _ x=>.s2b (fo x)
 | .ixb _ x c=>.ixb (fo x) (fo c)
 | .me kt z m k=>.me kt (fvA z) (fo m) (fo k)
 | .mes m st v=>.mes (fo m) (fo st) (fo v)
 | _=>.no
def fg:Option (Nat × Bool)->FG
 | none=>.no
 | some (n,t)=>.ok n t
def fd:Option Nat->FD
 | none=>.no
 | some n=>.ok n
def fi1 (dst:Option Nat) (g:Option (Nat × Bool)) (k:K) (r:FIs):FIs:=
 match g with
 | some g=>.g (fd dst) (fg (some g)) (fk k) r
 | none=>match dst with
  | none=>.n (fk k) r
  | some d=>match k with
   | .mv (.t n)=>.mt d n r
   | .mv (.c v)=>.mc d (fvA v) r
   | k=>.c d (fk k) r
def fis:List Ins->FIs
 | []=>.nil
 | i :: l=>fi1 i.dst i.g i.k (fis l)
def kcls:K->Nat
 | .mv _ | .pick .. | .bd .. | .nc _ | .bin .. | .eqs .. | .eqp .. | .un .. | .cvi .. | .fa .. | .fld .. | .ia .. | .iar .. | .ix .. | .ixv .. | .sli .. | .ext .. | .len .. | .mn _ | .mx _ | .mkf .. | .mkb .. | .isn .. | .eqi .. | .eqg .. | .mki .. | .tas .. | .s2b .. | .ixb ..=>0
 | .ld .. | .b2s _ | .lk .. | .sla .. | .mlen _=>1
 | .al _ | .bx _ | .bs .. | .mks .. | .mkm _=>2
 | .st .. | .app .. | .mu .. | .me .. | .mes .. | .cpy ..=>3
 | .call .. | .callv .. | .inv ..=>4
 | _=>5
def krd:K->Rd
 | .ld x _ _=>.one (fo x)
 | .b2s x=>.one (fo x)
 | .lk _ _ m _ _=>.one (fo m)
 | .st x _ _=>.one (fo x)
 | .app _ _ _ _ a x=>.two (fo a) (fo x)
 | .mu _ m _ _=>.one (fo m)
 | .me _ _ m _=>.one (fo m)
 | .mes m _ _=>.one (fo m)
 | .cpy _ a x=>.two (fo a) (fo x)
 | .sla x _ _ _ _=>.one (fo x)
 | .mlen x=>.one (fo x)
 | _=>.no
def nls:List Nat->Nl
 | []=>.nil
 | n :: l=>.cons n (nls l)
def rel2 (a b:Nat):Bool:=!(a == 0 || b == 0 || (a == 1 && b == 1) || (a == 1 && b == 2) || (a == 2 && b == 2))
def beforeJ (an:List Nat) (cl:List Nat) (j:Nat):List Nat:=
 (List.range j).filter λi=>!(an.getD j 0).testBit i && rel2 (cl.getD i 5) (cl.getD j 5)
def ancB' (pr:List (List Nat)):List Nat:=pr.foldl (λacc p=>acc ++ [p.foldl (λm i=>m ||| (1 <<< i ||| acc.getD i 0)) 0]) []
def fjs (an cl:List Nat):Nat->List Ins->FJs
 | _,[]=>.nil
 | j,i :: l=>.cons (fd i.dst) (fg i.g) (fk i.k) (bif kcls i.k == 4 then .c (nls ((beforeJ an cl j).map λi=>j - 1 - i)) else .s (kcls i.k) (krd i.k) (nls ((beforeJ an cl j).map λi=>j - 1 - i))) (fjs an cl (j + 1) l)
def badD (an cl:List Nat) (n:Nat):Bool:=(List.range n).any λj=>cl.getD j 5 == 5 || (beforeJ an cl j).any λi=>cl.getD i 5 == 4 && !(cl.getD j 5 == 1 || cl.getD j 5 == 2)
def pureC (k:K):Bool:=kcls k == 0 || (match k with | .ld ..=>true | _=>false)
def drawB' (an:List Nat) (pr:List (List Nat)) (l:List Ins):Bool:=
 (List.range l.length).all fun j => (pr.getD j []).all (· < j) &&
   (List.range j).all fun i => (an.getD j 0).testBit i ||
     ((match wrOf l i with | some d=>!(rdOf l j).contains d && wrOf l j != some d | none=>true) &&
      (match wrOf l j with | some d=>!(rdOf l i).contains d | none=>true))
def mppOf (pr:List (List Nat)) (l:List Ins):Option (KT × Nat × Nat × Nat × Nat × Nat × Nat):=
 match l.drop (l.length - 5) with
 | [⟨some d1,.lk kt (.d (.v (.int .i64 0))) (.t m) (.t k) false,none⟩,⟨some d2,.bin .add (.t e1) (.c (.d (.v (.int .i64 1)))),none⟩,⟨some d3,.me kt2 (.d (.v (.int .i64 0))) (.t m2) (.t k2),none⟩,⟨some d4,.ext (.t e3) 1,none⟩,⟨none,.mes (.t m3) (.t e4) (.t e2),none⟩] =>
  if (e1 = d1/\e2 = d2/\e3 = d3/\e4 = d4/\kt2 = kt/\m2 = m/\m3 = m/\k2 = k)/\(m ≠ d1/\m ≠ d2/\m ≠ d3/\m ≠ d4/\k ≠ d1/\k ≠ d2/\k ≠ d3/\k ≠ d4)/\d1 ≠ d2/\d1 ≠ d3/\d1 ≠ d4/\d2 ≠ d3/\d2 ≠ d4/\d3 ≠ d4/\drawOk pr l = true/\(ancOf pr (l.length - 5 + 4)).contains (l.length - 5) = true /\
   ((List.range l.length).map (killsOf pr (List.replicate (l.length - 5) [] ++ [[],[],[0],[],[0]]) l.length) = List.replicate (l.length - 5) [] ++ [[0],[0],[],[],[]])/\(l.take (l.length - 5)).all (λi=>i.g.isNone && pureC i.k) = true then
   some (kt,d1,d2,d3,d4,m,k) else none
 | _=>none
def qk (k:K):Bool:=kcls k == 0 || kcls k == 1
def flk (an:List Nat) (l:List Ins) (q:Nat):List Nat->FLk
 | []=>.nil
 | j :: r=>match (l[j]?).bind (λi=>i.dst.map λd=>(d,i.k)) with
  | some (d,k)=>.cons d (fk k) (flk an l q r)
  | none=>flk an l q r
def nearJ (an:List Nat) (l:List Ins) (q:Nat):List Nat:=(List.range q).filter λj=>!(an.getD q 0).testBit j
def fss (an:List Nat) (l0:List Ins):Nat->List Ins->FSs
 | _,[]=>.nil
 | j,i :: l=>.cons (fd i.dst) (fk i.k) (bif qk i.k then .nil else flk an l0 j (nearJ an l0 j)) (fss an l0 (j + 1) l)
def lookOk (l:List Ins) (j q:Nat):Bool:=(List.range (q + 1)).all λk=>Nat.blt k j || (match wrOf l k with | some d=>!(rdOf l j).contains d && (k == j || wrOf l j != some d) | none=>true)
def chainB (an:List Nat) (l:List Ins):Bool:=
 (l.all λi=>i.g.isNone && Nat.ble (kcls i.k) 4) &&
 ((List.range l.length).all fun q => (List.range q).all fun j => (an.getD q 0).testBit j || (match l[j]?, l[q]? with
   | some a,some b=>(kcls b.k == 0) || (qk a.k && (qk b.k || (a.dst.isSome && lookOk l j q)))
   | _,_=>false)) &&
 ((List.range l.length).any fun q => (List.range q).any fun j => !(an.getD q 0).testBit j && (match l[j]?, l[q]? with
   | some a,some b=>kcls a.k == 1 && kcls b.k == 4
   | _,_=>false))
def quiet (l:List Ins):Bool:=l.all λi=>kcls i.k == 0 || kcls i.k == 1
def fdreg (pr:List (List Nat)) (l:List Ins):FC:=
 match mppOf pr l with
 | some (kt,d1,d2,d3,d4,m,k)=>.mpp kt d1 d2 d3 d4 m k (fis (l.take (l.length - 5)))
 | none =>
 bif drawB' (ancB' pr) pr l then
  bif quiet l then .reg (fis l)
  else bif chainB (ancB' pr) l then .sreg (fss (ancB' pr) l 0 l)
  else bif badD (ancB' pr) (l.map λi=>kcls i.k) l.length then .no else .dreg (fjs (ancB' pr) (l.map λi=>kcls i.k) 0 l)
 else .no
def fc:AC->FC
 | .skip=>.skip
 | .reg l=>.reg (fis l)
 | .dreg pr l=>fdreg pr l
 | .seq a b=>.seq (fc a) (fc b)
 | .cond x a b=>.cond (fo x) (fc a) (fc b)
 | .block id c=>.block id (fc c)
 | .loop c=>.loop (fc c)
 | .exit id=>.exit id
 | .ret=>.ret
 | .stuck=>.no
def okI (n:Nat) (i:Ins):Bool:=i.sl.all (λt=>Nat.blt t n) && (match i.dst with | some d=>Nat.blt d n | none=>true)
def okA (n:Nat):AC->Bool
 | .reg l | .dreg _ l=>l.all (okI n)
 | .seq a b=>okA n a && okA n b
 | .cond x a b=>x.sl.all (λt=>Nat.blt t n) && okA n a && okA n b
 | .block _ c | .loop c=>okA n c
 | _=>true
end
end Go.Proofs.YtofpekbidngnfaaGreatDoor
