/-
  The quick evaluator of the program: code, what goes ahead of it, the runs.
-/
import Derived.Test.YtofpekbidngnfaaGreatDoorYFpN
import Derived.Test.YtofpekbidngnfaaGreatDoorYD13
import Derived.Test.YtofpekbidngnfaaGreatDoorProg
set_option linter.constructorNameAsVariable false
set_option linter.unusedSectionVars false
set_option linter.unusedSimpArgs false
set_option linter.unusedVariables false
namespace Go.Proofs.YtofpekbidngnfaaGreatDoor
open Go.RowKit
noncomputable section
abbrev hp:Nat->Option Md:=λ_=>some .hp
noncomputable def cod (f:Nat):Code:=match Tryz.prog.funcs[f]? with
 | some fn=>fn.body.getD .skip
 | none=>.skip
noncomputable def cA (c:Code):AC:=(comp Tryz.prog hp c).getD .stuck
noncomputable def rsA (f:Nat):List RC:=match Tryz.prog.funcs[f]? with
 | some fn=>(resC Tryz.prog fn).getD []
 | none=>[]
noncomputable def dA0 (f:Nat):AC:=match cod f with
 | .seq a _=>cA a
 | _=>.stuck
noncomputable def dA1 (f:Nat):AC:=match cod f with
 | .seq _ (.seq _ b)=>cA b
 | _=>.stuck
noncomputable def r11:AC:=match dA1 11 with
 | .seq _ b=>b
 | _=>.stuck
noncomputable def rd31:List AC × RL × AC:=(splitR (cA (cod 31))).getD ([],⟨[],0,0,0,0,0,0,0,[],.stuck⟩,.stuck)
structure DP where
 c0:FC
 c1:FC
 rs:FRs
structure RP where
 pre:List FC
 l0:FIs
 x:Nat
 m:Nat
 d:Nat
 b:Nat
 e:Nat
 id2:Nat
 l2:FIs
 c2:FC
 cr:FC
 rs:FRs
noncomputable def dp11:DP:=⟨fc (dA0 11),fc r11,frc (rsA 11)⟩
noncomputable def dp30:DP:=⟨fc (dA0 30),fc (dA1 30),frc (rsA 30)⟩
noncomputable def dp48:DP:=⟨fc (dA0 48),fc (dA1 48),frc (rsA 48)⟩
noncomputable def rp31:RP:=⟨rd31.1.map fc,fis rd31.2.1.l0,rd31.2.1.x,rd31.2.1.m,rd31.2.1.d,rd31.2.1.b,rd31.2.1.e,rd31.2.1.id2,fis rd31.2.1.l2,fc rd31.2.1.c2,fc rd31.2.2,frc (rsA 31)⟩
noncomputable def oE (k:FR) (l:List FV):FR:=lcs k (λ_ _=>.no) l
noncomputable def asc (l:Nat):Nat->Bool:=Nat.rec (motive:=λ_=>Nat->Bool) (λ_=>true) (λ_ ih c=>bif' (Nat.ble 32 (Nat.mod c 256)) (bif' (Nat.blt (Nat.mod c 256) 128) (ih (Nat.div c 256)) false) false) l
noncomputable def spl (l:Nat):Nat->Nat->Nat->List FV:=Nat.rec (motive:=λ_=>Nat->Nat->Nat->List FV) (λ_ n w=>bif' (Nat.beq n 0) [] [.s n w])
 (fun _ ih c n w => bif' (Nat.beq (Nat.mod c 256) 32) (bif' (Nat.beq n 0) (ih (Nat.div c 256) 0 0) (fN n fun n => fN w fun w => (.s n w) :: (ih (Nat.div c 256) 0 0)))
   (fN (Nat.add w (Nat.mul (Nat.mod c 256) (p8 n))) λw=>fN (Nat.succ n) λn=>fN (Nat.div c 256) λc=>ih c n w)) l
noncomputable def upF (l:Nat):Nat->Nat:=Nat.rec (motive:=λ_=>Nat->Nat) (λ_=>0) (λ_ ih c=>Nat.add (fN (Nat.mod c 256) λd=>bif' (Nat.ble 97 d) (bif' (Nat.ble d 122) (Nat.sub d 32) d) d) (Nat.mul 256 (ih (Nat.div c 256)))) l
noncomputable def x54 (args:List FV) (h:Hp):FR:=lcs .no (λa r=>oE (onS (λl c=>bif' (asc l c) (bif' (Nat.blt l 4000000000) (fN (lenL (spl l c 0 0) 0) λn=>bif' (Nat.ble n 140737488355328) (newB h (.c n (spl l c 0 0) .any) λp h=>.ok (.hsl p 0 n n 1) h) .no) .no) .no) a) r) args
noncomputable def x332 (F:FC') (args:List FV) (h:Hp):FR:=lcs .no (λa r=>FV.rec (motive_1:=λ_=>FR) (motive_2:=λ_=>Unit) .no .no .no .no (bif' (Nat.beq (lenL r 0) 0) (newB h (.c 0 [] .any) λp h=>.ok (.hsl p 0 0 0 2) h) .no) .no .no (λa=>F 332 args h) (λ_=>.no) (λ_ _ _=>.no) (λ_ _ _=>.no) (λ_ _ _=>.no) (λ_ _=>.no) (λ_ _=>.no) (λp o n c z=>F 332 args h) (λ_ _=>.no) (λ_=>.no) (λ_ _=>.no) (λ_ _=>.no) () (λ_ _ _ _=>()) a) args
noncomputable def x477 (args:List FV) (h:Hp):FR:=lcs .no (λa r=>oE (onS (λl c=>bif' (asc l c) (bif' (Nat.ble l 140737488355328) (fN (upF l c) λc=>.ok (.s l c) h) .no) .no) a) r) args
noncomputable def x580 (args:List FV) (h:Hp):FR:=lcs .no (λa r=>oE (onI (λk n=>bif' (Nat.beq (kN k) (kN .u64)) (onN (λn=>bif' (Nat.beq n 16) (.ok (.i .i64 (.ofNat 4)) h) .no) n) .no) a) r) args
noncomputable def x369 (args:List FV) (h:Hp):FR:=lcs .no (λa r=>lcs .no (λb r=>oE (onS (λ_ _=>onH (λp o n c z=>bif' (Nat.beq n 1) (bif' (Nat.beq z 1) (cellsOf h p λm cs _=>bif' (Nat.blt o m) (onS (λl c=>bif' (Nat.ble l 140737488355328) (.ok (.s l c) h) .no) (lnth .any cs o)) .no) .no) .no) a) b) r) r) args
noncomputable def in64 (n:Int):Bool:=Int.rec (motive:=λ_=>Bool) (λm=>Nat.blt m 9223372036854775808) (λm=>Nat.blt m 9223372036854775808) n
noncomputable def inSg (k:Nat) (n:Int):Bool:=Int.rec (motive:=λ_=>Bool) (λm=>Nat.blt m k) (λm=>Nat.blt m k) n
noncomputable def inU (k:Nat) (n:Int):Bool:=Int.rec (motive:=λ_=>Bool) (λm=>Nat.blt m k) (λ_=>false) n
noncomputable def i0 (n:Int):Bool:=Int.rec (motive:=λ_=>Bool) (λm=>Nat.beq m 0) (λ_=>false) n
noncomputable def opU (u:Bool) (op:Int):Bool:=bif' u (Int.rec (motive:=λ_=>Bool) (λm=>bif' (Nat.beq m 0) true (bif' (Nat.ble 8 m) (Nat.ble m 10) false)) (λ_=>false) op) true
noncomputable def gdF (f:Nat) (u v:Bool) (a b c op im:Int):Bool:=
 bif' (inU 16 a) (bif' (inU 16 b) (bif' (inU 16 c) (bif' (inU 12 op)
  (Nat.rec (motive := fun _ => Bool) (bif' (i0 im) (bif' (opU u op) (bif' v (bif' u (i0 op) false) true) false) false)
    (fun f _ => bif' (i0 c) (Nat.rec (motive := fun _ => Bool) (bif' (inU 65536 im) (opU u op) false)
      (λf _=>bif' (i0 op) (Nat.rec (motive:=λ_=>Bool) (inSg 524288 im) (λ_ _=>bif' (i0 b) (bif' (inSg 8388608 im) (bif' u true (i0 im)) false) false) f) false) f)
      (bif' (Nat.beq f 2) (bif' (i0 op) (bif' (i0 b) (bif' u false (i0 im)) false) false) false)) f) false) false) false) false
noncomputable def oI (kk:Int->List FV->FR) (l:List FV):FR:=lcs .no (λx r=>onI (λk n=>bif' (Nat.beq (kN k) 3) (bif' (in64 n) (kk n r) .no) .no) x) l
noncomputable def oB (kk:Bool->List FV->FR) (l:List FV):FR:=lcs .no (λx r=>onB (λt=>kk t r) x) l
noncomputable def x247 (args:List FV) (h:Hp):FR:=
 lcs .no (λx r=>oE (onAgg (λl=>oI (λf l=>onN (λf=>bif' (Nat.blt f 4) (oB (λu l=>oB (λv l=>oI (λa l=>oI (λb l=>oI (λc l=>oI (λop l=>oI (λim l=>oE (.ok (.b (gdF f u v a b c op im)) h) l) l) l) l) l) l) l) l) .no) f) l) x) r) args
noncomputable def inRs (rs:List FV) (i:Nat):Bool:=List.rec (motive:=λ_=>Bool) false (λx _ ih=>FV.rec (motive_1:=λ_=>Bool) (motive_2:=λ_=>Unit) false false false false false false false (λ_=>false) (λ_=>false) (λ_ _ _=>false) (λ_ _ _=>false) (λ_ _ _=>false) (λ_ _=>false) (λ_ c=>bif' (bif' (Nat.ble (Nat.mod c 256) i) (Nat.ble i (Nat.mod (Nat.div c 256) 256)) false) true ih) (λ_ _ _ _ _=>false) (λ_ _=>false) (λ_=>false) (λ_ _=>false) (λ_ _=>false) () (λ_ _ _ _=>()) x) rs
noncomputable def tabF (rs:List FV) (n:Nat):Nat->List FV:=Nat.rec (motive:=λ_=>Nat->List FV) (λ_=>[]) (λ_ ih i=>fN i λi=>(.b (inRs rs i)) :: ih (Nat.succ i)) n
noncomputable def strs (n:Nat) (l:List FV):Bool:=List.rec (motive:=λ_=>Nat->Bool) (λn=>Nat.beq n 0) (λx _ ih n=>Nat.rec (motive:=λ_=>Bool) false (λn _=>FV.rec (motive_1:=λ_=>Bool) (motive_2:=λ_=>Unit) false false false false false false false (λ_=>false) (λ_=>false) (λ_ _ _=>false) (λ_ _ _=>false) (λ_ _ _=>false) (λ_ _=>false) (λl _=>bif' (Nat.ble 2 l) (ih n) false) (λ_ _ _ _ _=>false) (λ_ _=>false) (λ_=>false) (λ_ _=>false) (λ_ _=>false) () (λ_ _ _ _=>()) x) n) l n
noncomputable def x53 (args:List FV) (h:Hp):FR:=
 lcs .no (λx r=>oE (onH (λp o n c z=>bif' (Nat.beq z 1) (bif' (Nat.beq o 0) (cellsOf h p λm cs _=>bif' (bif' (Nat.beq m n) (Nat.blt n 1000) false) (bif' (strs n cs) (newB h (.c 256 (tabF cs 256 0) .any) λp h=>.ok (.ptr p 0) h) .no) .no) .no) .no) x) r) args
noncomputable def aU (x:FV):Bool:=FV.rec (motive_1:=λ_=>Bool) (motive_2:=λ_=>Unit) false false false false false false false (λ_=>false) (λ_=>false) (λ_ _ _=>false) (λ_ _ _=>false) (λ_ _ _=>false) (λ_ _=>false) (λ_ _=>false) (λ_ _ _ _ _=>false) (λ_ _=>false) (λ_=>false) (λ_ _=>false) (λk _=>Nat.beq (kN k) 6) () (λ_ _ _ _=>()) x
noncomputable def allU (l:List FV):Bool:=List.rec (motive:=λ_=>Bool) true (λx _ ih=>bif' (aU x) ih false) l
noncomputable def x51 (args:List FV) (h:Hp):FR:=
 lcs .no (λx r=>oE (onH (λp o n c z=>bif' (Nat.beq z 1) (bif' (Nat.beq o 0) (bif' (Nat.ble n 65536) (cellsOf h p λm cs z0=>bif' (Nat.beq m n) (bif' (aU z0) (bif' (allU cs)
  (newB h (.c n cs z0) λp h=>newB h (.c 1 [.hsl p 0 n n 1] .any) λq h=>.ok (.tup [.ptr q 0,.i .i64 0]) h) .no) .no) .no) .no) .no) .no) x) r) args
noncomputable def X0 (F:FC') (f:Nat) (args:List FV) (h:Hp):FR:=
 bif' (Nat.beq f 54) (x54 args h) (bif' (Nat.beq f 369) (x369 args h) (bif' (Nat.beq f 332) (x332 F args h) (bif' (Nat.beq f 477) (x477 args h) (bif' (Nat.beq f 580) (x580 args h) (bif' (Nat.beq f 247) (x247 args h) (bif' (Nat.beq f 53) (x53 args h) (bif' (Nat.beq f 51) (x51 args h) (F f args h))))))))
noncomputable def ks31:List Nat:=[0,2,4,154,155]
section
variable (p11 p30 p48:DP) (p31:RP) (okf:Nat->Bool)
noncomputable def X (F:FC') (f:Nat) (args:List FV) (h:Hp):FR:=
 bif' (Nat.beq f 11) (runD (X0 F) okf 100000 p11.c0 8 (k11 (X0 F) okf 100000 p11.c1) p11.rs args h)
  (bif' (Nat.beq f 30) (runD (X0 F) okf 100000 p30.c0 12 (fA (X0 F) okf 100000 p30.c1) p30.rs args h)
    (bif' (Nat.beq f 48) (runD (X0 F) okf 100000 p48.c0 8 (fA (X0 F) okf 100000 p48.c1) p48.rs args h)
      (bif' (Nat.beq f 31) (runR (X0 F) okf 100000 p31.pre p31.l0 p31.x p31.m p31.d p31.b p31.e p31.id2 ks31 p31.l2 p31.c2 p31.cr p31.rs args h) (X0 F f args h))))
end
noncomputable def okf (f:Nat):Bool:=inN f [49,83,91,116,162,206,254,255,256,257,258,259,292,297,303,306,307,309,331,359,360,382,388,391,393,420,452,488]
noncomputable def h0:Hp:=.mk hE 0 .nil
noncomputable def small:FV:=.s 73 11440118976275467535156475911201076287670082134537458949114406288004907249615194669353513042584504030294419168668642858039704121198794241134686105907459526265684318628534832973
noncomputable def cases:FV:=.s 263 420749831145811172383586933179950367163688593794214576912928448220147711733236435276185611521578374079297262580823107615432387565376557491175925742999284216244151299362718796183285756978559809850034694557477643552888190176268585225777088489360699107951203829266985424085125236486084338525101267081685861803403533305313934692506535777806698777195011874917381131379034774099873537634535757837708472087581648919442850132317188536672104443790118207061007159450295568365100474456973180778625656586203398363651383968043060324679283830370148809458424326502967541949985106174045513474576181672151880767264501210963307647151831905270784872269
noncomputable def evU:FC':=evFF (X dp11 dp30 dp48 rp31 okf) (codeP Tryz.prog) okf 100000 1000
end
end Go.Proofs.YtofpekbidngnfaaGreatDoor
namespace Go.Proofs.YtofpekbidngnfaaGreatDoor
abbrev C1:=R8 FF
abbrev C2:=R8 C1
abbrev C3:=R8 C2
abbrev C4:=R8 C3
def g8 {α:Type} (w:Nat) (h:Nat->α) (k:Nat):R8 α:=.mk (h k) (h (Nat.add k w)) (h (Nat.add k (Nat.mul 2 w))) (h (Nat.add k (Nat.mul 3 w))) (h (Nat.add k (Nat.mul 4 w))) (h (Nat.add k (Nat.mul 5 w))) (h (Nat.add k (Nat.mul 6 w))) (h (Nat.add k (Nat.mul 7 w)))
def entN:Nat:=132784498209988580956930034567745209135464921634745501916228960845403802577558885201486832060839034057827573001439813435033942267166831942987434611169634181531024946272556495734306808
noncomputable def qF (k:Nat):FF:=bif' (Nat.beq (Nat.mod (Nat.shiftRight entN k) 2) 1) (codeP Tryz.prog k) .no
noncomputable def tc2 (k:Nat):C2:=g8 8 (g8 1 qF) k
end Go.Proofs.YtofpekbidngnfaaGreatDoor
