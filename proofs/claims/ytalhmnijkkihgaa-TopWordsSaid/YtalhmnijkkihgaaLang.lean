/-
  One's own library, part 2: the small language that the model's code is turned into, its evaluator and its weakest preconditions.
-/
import Derived.Test.YtalhmnijkkihgaaCore
namespace Go.Proofs.Ytalhmnijkkihgaa
set_option linter.unusedVariables false
set_option linter.unusedSimpArgs false
set_option linter.unusedSectionVars false
open Go.RowKit

/-! ### operands -/
inductive Opd where
  | t (n : Nat)
  | c (x : AV)
  deriving Inhabited

@[go_sem] def get (s : List AV) : Opd → AV
  | .t n => s.getD n .any
  | .c x => x

def cst1 : Value → Option AV
  | .slice none 0 0 => some .esl
  | .pointer none => some .nilp
  | .map none => some .mnil
  | v => if plainV v then some (.d (.v v)) else none
def cst : Value → Option AV
  | .agg cs => (cs.toList.mapM cst1).map .agg
  | v => cst1 v
def opd : Operand → Option Opd
  | .tmp t => some (.t t)
  | .const v => (cst v).map .c
  | .func f => some (.c (.fn f []))
  | .global _ => none

/-- How a slice that is made is held: as data, as a block of its own, or as a row that may grow. -/
inductive Md where
  | im | hp | gr
  deriving DecidableEq, Inhabited

inductive K where
  | mv (x : Opd)
  | mvg (e sz : Nat) (x : Opd)
  | pick (c a b : Opd)
  | al (z : List AV)
  | bx (x : Opd)
  | bd (z : List AV) (parts : List (Nat × Nat × Opd))
  | bs (md : Md) (e sz : Nat) (parts : List Opd)
  | ld (x : Opd) (n : Nat) (ag : Bool)
  | st (x v : Opd) (n : Nat)
  | nc (x : Opd)
  | bin (op : BinOp) (x y : Opd)
  | un (op : UnOp) (x : Opd)
  | cvi (k : IntKind) (x : Opd)
  | fa (x : Opd) (off : Nat)
  | fld (x : Opd) (off n : Nat) (ag : Bool)
  | ia (x i : Opd) (sz : Nat)
  | iar (x i : Opd) (n sz : Nat)
  | ix (x i : Opd)
  | ixv (x i : Opd) (n : Nat)
  | sli (str : Bool) (x : Opd) (lo hi : Option Opd) (sz : Nat)
  | sla (x : Opd) (lo hi : Option Opd) (n sz : Nat)
  | slz (x : Opd)
  | ext (x : Opd) (i : Nat)
  | call (f : FuncId) (args : List Opd)
  | callv (g : Opd) (args : List Opd)
  | len (str : Bool) (x : Opd)
  | app (md : Md) (e sz bytes : Nat) (s x : Opd)
  | mn (xs : List Opd)
  | mx (xs : List Opd)
  | mkf (f : FuncId) (caps : List Opd)
  | mks (md : Md) (e sz bytes : Nat) (z : List AV) (n c : Opd)
  | cpy (sz : Nat) (d x : Opd)
  | mkm (kt : KT)
  | lk (kt : KT) (z : AV) (m k : Opd) (ok : Bool)
  | mu (kt : KT) (m k v : Opd)
  | me (kt : KT) (z : AV) (m k : Opd)
  | mes (m st v : Opd)
  | del (kt : KT) (m k : Opd)
  | ixb (f : FuncId) (x c : Opd)
  | eqg (kt : KT) (neg : Bool) (x y : Opd)
  | isn (mp neg : Bool) (x : Opd)
  | s2b (md : Md) (e : Nat) (x : Opd)
  | b2s (x : Opd)
  | eqs (neg : Bool) (x y : Opd)
  | eqp (neg : Bool) (x y : Opd)
  deriving Inhabited

structure Ins where
  dst : Option Nat
  k : K
  g : Option (Nat × Bool) := none
  deriving Inhabited

inductive AC where
  | skip
  | reg (l : List Ins)
  | dreg (pr : List (List Nat)) (l : List Ins)
  | seq (a b : AC)
  | cond (x : Opd) (a b : AC)
  | block (id : Nat) (c : AC)
  | loop (c : AC)
  | exit (id : Nat)
  | ret
  deriving Inhabited

/-! ### small functions on abstract values -/
def shown : AV → Bool
  | .any | .tup _ => false
  | _ => true
@[go_sem] def one : AV → Bool
  | .any | .tup _ | .agg _ => false
  | _ => true
def cellsAV : AV → List AV
  | .agg cs => cs
  | x => [x]
@[go_sem] def toDat : AV → Option Dat
  | .d x => some x
  | .esl => some (.sl [])
  | .gsl _ _ es => some (.sl es)
  | _ => none
@[go_sem] def toDats : List AV → Option (List Dat)
  | [] => some []
  | x :: xs => match toDat x, toDats xs with
    | some d, some ds => some (d :: ds)
    | _, _ => none
@[go_sem] def splice (cs : List AV) (off : Nat) (vs : List AV) : List AV := cs.take off ++ vs ++ cs.drop (off + vs.length)
@[go_sem] def fillA (z : List AV) : List (Nat × Nat × AV) → Option (List AV)
  | [] => some z
  | (off, n, v) :: r => if shown v && (cellsAV v).length == n && decide (off + n ≤ z.length) then fillA (splice z off (cellsAV v)) r else none
@[go_sem] def loadA (H : List ABlk) (x : AV) (n : Nat) : Option (List AV) :=
  match x with
  | .ptr b off => match H[b]? with
    | some (.cells cs) => if off + n ≤ cs.length then some ((cs.drop off).take n) else none
    | _ => none
  | .ip cs => if n ≤ cs.length then some ((cs.take n).map .d) else none
  | _ => none
@[go_sem] def storeA (H : List ABlk) (x : AV) (vs : List AV) : Option (List ABlk) :=
  match x with
  | .ptr b off => match H[b]? with
    | some (.cells cs) => if off + vs.length ≤ cs.length ∧ vs.all one = true then some (H.set b (.cells (splice cs off vs))) else none
    | _ => none
  | _ => none
@[go_sem] def outA (ag : Bool) (cs : List AV) : Option AV :=
  if ag then some (.agg cs) else match cs with
    | [c] => some c
    | _ => none
@[go_sem] def binA (op : BinOp) (x y : AV) : Option AV :=
  match x, y with
  | .d (.v (.int k a)), .d (.v (.int k' b)) =>
    match op with
    | .shl => if b < 0 then none else some (.d (.v (.int k (k.wrap (a * 2 ^ (min b.toNat k.bits))))))
    | .shr => if b < 0 then none else some (.d (.v (.int k (a / (2 ^ (min b.toNat k.bits))))))
    | _ => if k = k' then
      match op with
      | .add => some (.d (.v (.int k (k.wrap (a + b)))))
      | .sub => some (.d (.v (.int k (k.wrap (a - b)))))
      | .mul => some (.d (.v (.int k (k.wrap (a * b)))))
      | .quo => if b = 0 then none else some (.d (.v (.int k (k.wrap (a.tdiv b)))))
      | .rem => if b = 0 then none else some (.d (.v (.int k (a.tmod b))))
      | .and => some (.d (.v (.int k (k.wrap (BitVec.ofInt k.bits a &&& BitVec.ofInt k.bits b).toNat))))
      | .or => some (.d (.v (.int k (k.wrap (BitVec.ofInt k.bits a ||| BitVec.ofInt k.bits b).toNat))))
      | .xor => some (.d (.v (.int k (k.wrap (BitVec.ofInt k.bits a ^^^ BitVec.ofInt k.bits b).toNat))))
      | .andNot => some (.d (.v (.int k (k.wrap (BitVec.ofInt k.bits a &&& ~~~ BitVec.ofInt k.bits b).toNat))))
      | .eql => some (.d (.v (.bool (a == b))))
      | .neq => some (.d (.v (.bool (a != b))))
      | .lss => some (.d (.v (.bool (decide (a < b)))))
      | .leq => some (.d (.v (.bool (decide (a ≤ b)))))
      | .gtr => some (.d (.v (.bool (decide (a > b)))))
      | .geq => some (.d (.v (.bool (decide (a ≥ b)))))
      | _ => none
      else none
  | .d (.v (.string a)), .d (.v (.string b)) =>
    match op with
    | .eql => some (.d (.v (.bool (decide (a = b)))))
    | .neq => some (.d (.v (.bool !(decide (a = b)))))
    | .add => if ((a.size + b.size : Nat) : Int) > IntKind.i64.max then none else some (.d (.v (.string (a ++ b))))
    | _ => none
  | _, _ => none
@[go_sem] def ptrsA (neg : Bool) (x y : AV) : Option AV :=
  match x, y with
  | .nilp, .nilp => some (.d (.v (.bool !neg)))
  | .ptr _ _, .nilp => some (.d (.v (.bool neg)))
  | .nilp, .ptr _ _ => some (.d (.v (.bool neg)))
  | .ip _, .nilp => some (.d (.v (.bool neg)))
  | _, _ => none
@[go_sem] def boolsA (op : BinOp) (x y : AV) : Option AV :=
  match x, y with
  | .d (.v (.bool a)), .d (.v (.bool b)) =>
    match op with
    | .eql => some (.d (.v (.bool (a == b))))
    | .neq => some (.d (.v (.bool !(a == b))))
    | _ => none
  | _, _ => none
@[go_sem] def unA (op : UnOp) (x : AV) : Option AV :=
  match op, x with
  | .not, .d (.v (.bool b)) => some (.d (.v (.bool !b)))
  | .neg, .d (.v (.int k n)) => some (.d (.v (.int k (k.wrap (0 - n)))))
  | _, _ => none
@[go_sem] def isStr : AV → Bool
  | .d (.v (.string _)) => true
  | _ => false
@[go_sem] def lenA : AV → Option Nat
  | .d (.v (.string s)) => some s.size
  | .d (.sl es) => some es.length
  | .esl => some 0
  | .gsl _ _ es => some es.length
  | .hsl _ _ n _ _ => some n
  | _ => none
@[go_sem] def faA (x : AV) (off : Nat) : Option AV :=
  match x with
  | .ptr b o => some (.ptr b (o + off))
  | .ip cs => some (.ip (cs.drop off))
  | _ => none
def iaA (x : AV) (i : Int) (sz : Nat) : Option AV :=
  match x with
  | .d (.sl es) => if 0 ≤ i ∧ i < es.length ∧ (es.getD i.toNat []).length = sz then some (.ip (es.getD i.toNat [])) else none
  | .gsl _ sz' es => if 0 ≤ i ∧ i < es.length ∧ sz' = sz then some (.ip (es.getD i.toNat [])) else none
  | .hsl b off n _ sz' => if 0 ≤ i ∧ i < n ∧ sz' = sz then some (.ptr b (off + i.toNat * sz)) else none
  | _ => none
@[go_sem] def bnd (s : List AV) (d : Nat) : Option Opd → Option Int
  | none => some d
  | some x => match get s x with
    | .d (.v (.int _ n)) => some n
    | _ => none
@[go_sem] def slA (x : AV) (lo hi : Int) (sz : Nat) : Option AV :=
  match x with
  | .d (.v (.string s)) => if 0 ≤ lo ∧ lo ≤ hi ∧ hi ≤ s.size then some (.d (.v (.string (s.extract lo.toNat hi.toNat)))) else none
  | .d (.sl es) => if 0 ≤ lo ∧ lo ≤ hi ∧ hi ≤ es.length ∧ es.all (fun e => e.length == sz) = true then some (.d (.sl ((es.drop lo.toNat).take (hi.toNat - lo.toNat)))) else none
  | .gsl _ sz' es => if 0 ≤ lo ∧ lo ≤ hi ∧ hi ≤ es.length ∧ sz' = sz then some (.d (.sl ((es.drop lo.toNat).take (hi.toNat - lo.toNat)))) else none
  | .esl => if lo = 0 ∧ hi = 0 then some .esl else none
  | .hsl b off _ cap sz' => if 0 ≤ lo ∧ lo ≤ hi ∧ hi ≤ cap ∧ sz' = sz then (if lo = cap then some (.d (.sl [])) else some (.hsl b (off + lo.toNat * sz) (hi.toNat - lo.toNat) (cap - lo.toNat) sz)) else none
  | _ => none
@[go_sem] def wanted (s : List AV) : Option (Nat × Bool) → Option Bool
  | none => some true
  | some (g, b) => match s.getD g .any with
    | .d (.v (.bool t)) => some (t == b)
    | .tup [] => some false
    | _ => none

@[go_sem] def ints (s : List AV) : List Opd → Option (List (IntKind × Int))
  | [] => some []
  | x :: xs => match get s x, ints s xs with
    | .d (.v (.int k n)), some r => some ((k, n) :: r)
    | _, _ => none

/-- Elements, for an append or a copy: each a list of cells. -/
def elemsA (H : List ABlk) (sz : Nat) : AV → Option (List (List AV))
  | .d (.sl es) => if es.all (fun e => e.length == sz) then some (es.map (·.map .d)) else none
  | .gsl _ sz' es => if sz' = sz then some (es.map (·.map .d)) else none
  | .esl => some []
  | .hsl b off n _ sz' => match H[b]? with
    | some (.cells cs) => if off + n * sz ≤ cs.length ∧ sz' = sz then some ((List.range n).map fun i => (cs.drop (off + i * sz)).take sz) else none
    | _ => none
  | .d (.v (.string s)) => if sz = 1 then some (s.data.toList.map fun b => [AV.d (.v (.int .u8 b.toNat))]) else none
  | _ => none
@[go_sem] def datss : List (List AV) → Option (List (List Dat))
  | [] => some []
  | x :: xs => match toDats x, datss xs with
    | some d, some ds => some (d :: ds)
    | _, _ => none

def keyOf1 : AV → Option Value
  | .d (.v x) => if plainV x then some x else none
  | _ => none
def keysOf : List AV → Option (List Value)
  | [] => some []
  | x :: xs => match keyOf1 x, keysOf xs with
    | some v, some vs => some (v :: vs)
    | _, _ => none
def keyOf : AV → Option Value
  | .d (.v x) => if plainV x then some x else none
  | .agg cs => match keysOf cs with
    | some l => some (.agg l.toArray)
    | none => none
  | _ => none
def keq1 : Value → Value → Bool
  | .bool a, .bool b => a == b
  | .int k a, .int k' b => k == k' && a == b
  | .string a, .string b => decide (a = b)
  | _, _ => false
def keqL : List Value → List Value → Bool
  | [], [] => true
  | a :: as, b :: bs => keq1 a b && keqL as bs
  | _, _ => false
def keq : Value → Value → Bool
  | .agg a, .agg b => keqL a.toList b.toList
  | a, b => keq1 a b
def mapGet : List (Value × AV × Nat) → Value → Option (AV × Nat)
  | [], _ => none
  | e :: r, k => if keq e.1 k then some e.2 else mapGet r k
def mapSet : List (Value × AV × Nat) → Value → AV → List (Value × AV × Nat)
  | [], _, _ => []
  | e :: r, k, v => if keq e.1 k then (e.1, v, e.2.2) :: r else e :: mapSet r k v
def mapDel : List (Value × AV × Nat) → Value → List (Value × AV × Nat)
  | [], _ => []
  | e :: r, k => if keq e.1 k then r else e :: mapDel r k
/-- m[k] = v -/
def mapPut (ck : Nat) (es : List (Value × AV × Nat)) (k : Value) (v : AV) : Nat × List (Value × AV × Nat) :=
  match mapGet es k with
  | some _ => (ck, mapSet es k v)
  | none => (ck + 1, es ++ [(k, v, ck)])
def mapSt : List (Value × AV × Nat) → Int → AV → Option (List (Value × AV × Nat))
  | [], _, _ => none
  | e :: r, t, v => if (e.2.2 : Int) == t then some ((e.1, v, e.2.2) :: r) else match mapSt r t v with
    | some r' => some (e :: r')
    | none => none
def mapOf (H : List ABlk) (kt : KT) : AV → Option (List (Value × AV × Nat))
  | .mnil => some []
  | .mp b => match H[b]? with
    | some (.map kt' _ es) => if kt' = kt then some es else none
    | _ => none
  | _ => none
def bytesOf : List (List AV) → Option (List UInt8)
  | [] => some []
  | [.d (.v (.int .u8 n))] :: r => match bytesOf r with
    | some l => some (UInt8.ofNat n.toNat :: l)
    | none => none
  | _ => none
/-- The first place of a byte. -/
def idxB : List UInt8 → UInt8 → Int
  | [], _ => -1
  | b :: l, c => if b == c then 0 else if idxB l c == -1 then -1 else idxB l c + 1

/-- Is it nil? -/
def nilA (mp neg : Bool) (x : AV) : Option AV :=
  if mp then match x with
    | .mnil => some (.d (.v (.bool !neg)))
    | .mp _ => some (.d (.v (.bool neg)))
    | _ => none
  else match x with
    | .esl => some .ub
    | .d (.sl []) => some .ub
    | .d (.sl (_ :: _)) => some (.d (.v (.bool neg)))
    | .gsl _ _ [] => some .ub
    | .gsl _ _ (_ :: _) => some (.d (.v (.bool neg)))
    | .hsl _ _ 0 _ _ => some .ub
    | .hsl _ _ (_ + 1) _ _ => some (.d (.v (.bool neg)))
    | _ => none
/-- THE EVALUATOR of everything that is no call. -/
@[go_sem] def evK (k : K) (s : List AV) (H : List ABlk) : Option (AV × List ABlk) :=
  match k with
  | .mv x => some (get s x, H)
  | .mvg e sz x => match get s x with
    | .esl => some (.gsl H.length sz [], H ++ [.row e sz 0])
    | .gsl b z es => some (.gsl b z es, H)
    | _ => none
  | .pick c a b => match get s c with
    | .d (.v (.bool t)) => some (bif t then get s a else get s b, H)
    | _ => none
  | .al z => some (.ptr H.length 0, H ++ [.cells z])
  | .bx x => if shown (get s x) then some (.ptr H.length 0, H ++ [.cells (cellsAV (get s x))]) else none
  | .bd z ps => match fillA z (ps.map fun p => (p.1, p.2.1, get s p.2.2)) with
    | some cs => some (.agg cs, H)
    | none => none
  | .bs md e sz ps =>
    if ps.all (fun p => shown (get s p) && (cellsAV (get s p)).length == sz) then
      match md with
      | .im => if ps.isEmpty then some (.esl, H) else match datss (ps.map fun p => cellsAV (get s p)) with
        | some es => some (.d (.sl es), H)
        | none => none
      | .hp => some (.hsl H.length 0 ps.length ps.length sz, H ++ [.cells (ps.map fun p => cellsAV (get s p)).flatten])
      | .gr => match datss (ps.map fun p => cellsAV (get s p)) with
        | some es => some (.gsl H.length sz es, H ++ [.row e sz es.length])
        | none => none
    else none
  | .ld x n ag => match loadA H (get s x) n with
    | some cs => match outA ag cs with
      | some v => some (v, H)
      | none => none
    | none => none
  | .st x v n => if shown (get s v) && (cellsAV (get s v)).length == n then
      match storeA H (get s x) (cellsAV (get s v)) with
      | some H' => some (.tup [], H')
      | none => none
    else none
  | .nc x => match get s x with
    | .ptr b o => some (.ptr b o, H)
    | .ip cs => some (.ip cs, H)
    | .fn f cs => some (.fn f cs, H)
    | _ => none
  | .bin op x y => match binA op (get s x) (get s y) with
    | some v => some (v, H)
    | none => none
  | .eqs neg x y => match boolsA (if neg then .neq else .eql) (get s x) (get s y) with
    | some v => some (v, H)
    | none => none
  | .eqp neg x y => match ptrsA neg (get s x) (get s y) with
    | some v => some (v, H)
    | none => none
  | .un op x => match unA op (get s x) with
    | some v => some (v, H)
    | none => none
  | .cvi k x => match get s x with
    | .d (.v (.int _ n)) => some (.d (.v (.int k (k.wrap n))), H)
    | _ => none
  | .fa x off => match faA (get s x) off with
    | some v => some (v, H)
    | none => none
  | .fld x off n ag => match get s x with
    | .agg cs => if off + n ≤ cs.length then match outA ag ((cs.drop off).take n) with
        | some v => some (v, H)
        | none => none
      else none
    | _ => none
  | .ia x i sz => match get s i with
    | .d (.v (.int _ n)) => match iaA (get s x) n sz with
      | some v => some (v, H)
      | none => none
    | _ => none
  | .iar x i n sz => match get s i with
    | .d (.v (.int _ j)) => if 0 ≤ j ∧ j < n then match faA (get s x) (j.toNat * sz) with
        | some v => some (v, H)
        | none => none
      else none
    | _ => none
  | .ix x i => match get s x, get s i with
    | .d (.v (.string b)), .d (.v (.int _ j)) => if 0 ≤ j ∧ j < b.size then some (.d (.v (.int .u8 ((b.data.toList.getD j.toNat 0).toNat))), H) else none
    | _, _ => none
  | .ixv x i n => match get s x, get s i with
    | .agg cs, .d (.v (.int _ j)) => if 0 ≤ j ∧ j < n ∧ n ≤ cs.length then some (cs.getD j.toNat .any, H) else none
    | _, _ => none
  | .sli str x lo hi sz => if isStr (get s x) = str then match lenA (get s x) with
    | some n => match bnd s 0 lo, bnd s n hi with
      | some l, some h => match slA (get s x) l h sz with
        | some v => some (v, H)
        | none => none
      | _, _ => none
    | none => none
    else none
  | .sla x lo hi n sz => match get s x with
    | .ptr b off => match H[b]?, bnd s 0 lo, bnd s n hi with
      | some (.cells cs), some l, some h => if off + n * sz ≤ cs.length ∧ n ≤ maxLen then match slA (.hsl b off n n sz) l h sz with
          | some v => some (v, H)
          | none => none
        else none
      | _, _, _ => none
    | _ => none
  | .slz x => match lenA (get s x) with
    | some _ => some (.esl, H)
    | none => none
  | .ext x i => match get s x with
    | .tup cs => match cs[i]? with
      | some v => some (v, H)
      | none => none
    | _ => none
  | .len str x => if isStr (get s x) = str then match lenA (get s x) with
    | some n => some (.d (.v (.int .i64 n)), H)
    | none => none
    else none
  | .mn xs => match ints s xs with
    | some ((k, n) :: r) => some (.d (.v (.int k (r.foldl (fun a b => if b.2 < a then b.2 else a) n))), H)
    | _ => none
  | .mx xs => match ints s xs with
    | some ((k, n) :: r) => some (.d (.v (.int k (r.foldl (fun a b => if b.2 > a then b.2 else a) n))), H)
    | _ => none
  | .mkf f caps => some (.fn f (caps.map (get s)), H)
  | .app md e sz bytes a x => match elemsA H sz (get s x) with
    | some xs => match datss xs with
      | some es =>
        match get s a with
        | .esl => if es.length * bytes ≤ 140737488355328 ∧ es.length ≤ maxLen then
            match md with
            | .im => some (.d (.sl es), H)
            | .hp => some (.hsl H.length 0 es.length es.length sz, H ++ [.cells xs.flatten])
            | .gr => some (.gsl H.length sz es, H ++ [.row e sz es.length])
          else none
        | .gsl b sz0 old => match H[b]? with
          | some (.row e' sz' n) => if n = old.length ∧ sz0 = sz ∧ sz' = sz ∧ e' = e ∧ (old.length + es.length) * bytes ≤ 140737488355328 ∧ old.length + es.length ≤ maxLen then
              some (.gsl b sz (old ++ es), H.set b (.row e sz (old.length + es.length))) else none
          | _ => none
        | .hsl b 0 n _ sz' => match H[b]? with
          | some (.cells cs) => if sz' = sz ∧ n * sz ≤ cs.length ∧ (n + es.length) * bytes ≤ 140737488355328 ∧ n + es.length ≤ maxLen then
              some (.hsl H.length 0 (n + es.length) (n + es.length) sz, H.set b .dead ++ [.cells (cs.take (n * sz) ++ xs.flatten)])
            else none
          | _ => none
        | _ => none
      | none => none
    | none => none
  | .mks _ _ sz bytes z n c => match get s n, get s c with
    | .d (.v (.int _ l)), .d (.v (.int _ m)) => if 0 ≤ l ∧ l ≤ m ∧ m.toNat * bytes ≤ 140737488355328 ∧ m.toNat ≤ maxLen then
        some (.hsl H.length 0 l.toNat m.toNat sz, H ++ [.cells (List.replicate m.toNat z).flatten]) else none
    | _, _ => none
  | .cpy sz d x => match get s d with
    | .hsl b off n _ sz' => match H[b]?, elemsA H sz (get s x) with
      | some (.cells cs), some xs => match datss xs with
        | some es => if sz' = sz ∧ es.length ≤ n ∧ off + n * sz ≤ cs.length then
            some (.d (.v (.int .i64 es.length)), H.set b (.cells (splice cs off (es.flatten.map .d)))) else none
        | none => none
      | _, _ => none
    | _ => none
  | .mkm kt => some (.mp H.length, H ++ [.map kt 0 []])
  | .lk kt z m k ok => match keyOf (get s k) with
    | some kv => if keyFits kt kv = true then match mapOf H kt (get s m) with
        | some es => match mapGet es kv with
          | some e => some (if ok then .tup [e.1, .d (.v (.bool true))] else e.1, H)
          | none => some (if ok then .tup [z, .d (.v (.bool false))] else z, H)
        | none => none
      else none
    | none => none
  | .mu kt m k v => match get s m, keyOf (get s k) with
    | .mp b, some kv => if keyFits kt kv = true ∧ shown (get s v) = true then match H[b]? with
        | some (.map kt' ck es) => if kt' = kt then some (.tup [], H.set b (.map kt (mapPut ck es kv (get s v)).1 (mapPut ck es kv (get s v)).2)) else none
        | _ => none
      else none
    | _, _ => none
  | .me kt z m k => match get s m, keyOf (get s k) with
    | .mp b, some kv => if keyFits kt kv = true then match H[b]? with
        | some (.map kt' ck es) => if kt' = kt then match mapGet es kv with
            | some e => some (.tup [e.1, .d (.v (.int .i64 e.2))], H)
            | none => some (.tup [z, .d (.v (.int .i64 ck))], H.set b (.map kt (ck + 1) (es ++ [(kv, z, ck)])))
          else none
        | _ => none
      else none
    | _, _ => none
  | .mes m t v => match get s m, get s t with
    | .mp b, .d (.v (.int _ n)) => match H[b]? with
      | some (.map kt ck es) => if shown (get s v) = true then match mapSt es n (get s v) with
          | some es' => some (.tup [], H.set b (.map kt ck es'))
          | none => none
        else none
      | _ => none
    | _, _ => none
  | .del kt m k => match keyOf (get s k) with
    | some kv => if keyFits kt kv = true then match get s m with
        | .mnil => some (.tup [], H)
        | .mp b => match H[b]? with
          | some (.map kt' ck es) => if kt' = kt then some (.tup [], H.set b (.map kt ck (mapDel es kv))) else none
          | _ => none
        | _ => none
      else none
    | none => none
  | .s2b _ _ x => match get s x with
    | .d (.v (.string b)) => if b.size ≤ maxLen then some (.d (.sl (b.data.toList.map fun c => [.v (.int .u8 c.toNat)])), H) else none
    | _ => none
  | .b2s x => if isStr (get s x) = false then match elemsA H 1 (get s x) with
      | some xs => match bytesOf xs with
        | some l => some (.d (.v (.string ⟨l.toArray⟩)), H)
        | none => none
      | none => none
    else none
  | .ixb _ x c => match get s x, get s c with
    | .d (.v (.string b)), .d (.v (.int .u8 n)) => some (.d (.v (.int .i64 (idxB b.data.toList (UInt8.ofNat n.toNat)))), H)
    | _, _ => none
  | .eqg kt neg x y => match keyOf (get s x), keyOf (get s y) with
    | some a, some b => if keyFits kt a = true ∧ keyFits kt b = true then some (.d (.v (.bool (if neg then !(keq a b) else keq a b))), H) else none
    | _, _ => none
  | .isn mp neg x => match nilA mp neg (get s x) with
    | some v => some (v, H)
    | none => none
  | _ => none

def ACalls (P : Program) (f : FuncId) (args : List AV) (H : List ABlk) (R : AV → List ABlk → Prop) : Prop :=
  ∀ (σ : Sg) (w : World) (vs : List Value), HR σ H w → VRs σ args vs →
    Calls P f vs.toArray w fun e w' => ∃ σ' H' v u, e = .returned u ∧ Ext σ H w σ' H' w' ∧ HR σ' H' w' ∧ VR σ' v u ∧ R v H'

def callOk (P : Program) (f : FuncId) : Bool := match P.funcs[f]? with
  | some fn => fn.body.isSome && !(fn.name == "runtime.NumGoroutine")
  | none => false

def wpIns (P : Program) : List Ins → List AV → List ABlk → (List AV → List ABlk → Prop) → Prop
  | [], s, H, Kk => Kk s H
  | i :: r, s, H, Kk =>
    match wanted s i.g with
    | some true =>
      match i.k with
      | .call f args => ACalls P f (args.map (get s)) H fun v H' => wpIns P r (setO s i.dst v) H' Kk
      | .callv g args => match get s g with
        | .fn f caps => callOk P f = true ∧ ACalls P f (args.map (get s) ++ caps) H fun v H' => wpIns P r (setO s i.dst v) H' Kk
        | _ => False
      | k => match evK k s H with
        | some (v, H') => wpIns P r (setO s i.dst v) H' Kk
        | none => False
    | some false => wpIns P r (setO s i.dst (.tup [])) H Kk
    | none => False

abbrev APost := Exit → List AV → List ABlk → Prop
def APost.then (n : List AV → List ABlk → Prop) (Q : APost) : APost
  | .normal, s, H => n s H
  | e, s, H => Q e s H
def APost.inBlock (id : Nat) (Q : APost) : APost
  | .exit id', s, H => if id' = id then Q .normal s H else Q (.exit id') s H
  | e, s, H => Q e s H

end Go.Proofs.Ytalhmnijkkihgaa
