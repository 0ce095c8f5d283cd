/-
  One's own library, part 4: the model's operations turned into the small language.
-/
import Derived.Test.YtalhmnijkkihgaaHeap3
import Derived.DeepKeys3
import Derived.StringKeys
import Derived.Laws.MakeOwn
import Derived.Laws.BytesString
import Derived.Lib.Bytealg
namespace Go.Proofs.Ytalhmnijkkihgaa
set_option linter.unusedVariables false
set_option linter.unusedSimpArgs false
set_option linter.unusedSectionVars false
open Go.RowKit

def szOf (P : Program) (t : TypeId) : Option Nat := (P.info? t).map (·.size)
def byOf (P : Program) (t : TypeId) : Option Nat := (P.info? t).map (·.bytes)
def agOf (P : Program) (t : TypeId) : Option Bool := (P.underlying t).map fun d => match d with
  | .struct _ | .array _ _ => true
  | _ => false
def elOf (P : Program) (t : TypeId) : Option TypeId := (P.underlying t).bind fun d => match d with
  | .slice e => some e
  | _ => none
def zeroOf (P : Program) (t : TypeId) : Option (List AV) := ((P.info? t).bind (·.zero)).bind fun z => z.cells.toList.mapM cst1
def opds (l : List Operand) : Option (List Opd) := l.mapM opd
def opdO : Option Operand → Option (Option Opd)
  | none => some none
  | some x => (opd x).map some

def partsOf (P : Program) (fs : Array Field) : List (Nat × Operand) → Option (List (Nat × Nat × Opd))
  | [] => some []
  | (i, x) :: r => match fs[i]?, opd x, partsOf P fs r with
    | some f, some y, some r' => match szOf P f.type with
      | some n => some ((f.offset, n, y) :: r')
      | none => none
    | _, _, _ => none
/-- The parts of a slice's literal, one behind the other. -/
def rowOf : Nat → List (Nat × Operand) → Option (List Opd)
  | _, [] => some []
  | k, (i, x) :: r => if i = k then match opd x, rowOf (k + 1) r with
      | some y, some r' => some (y :: r')
      | _, _ => none
    else none

def isBoolT (P : Program) (t : TypeId) : Bool := match P.underlying t with
  | some .bool => true
  | _ => false
def isStrT (P : Program) (t : TypeId) : Bool := match P.underlying t with
  | some .string => true
  | _ => false
def isPtrT (P : Program) (t : TypeId) : Bool := match P.underlying t with
  | some (.pointer _) => true
  | _ => false
def isIntT (P : Program) (t : TypeId) : Option IntKind := match P.underlying t with
  | some (.int k) => some k
  | _ => none

/-- The cells of a key's type, one behind the other. -/
def flatK (P : Program) : Nat → TypeId → Option (List KC)
  | 0, _ => none
  | d + 1, t => match P.underlying t with
    | some .bool => if P.cellsOf t = 1 then some [.b] else none
    | some (.int k) => if P.cellsOf t = 1 then some [.i k] else none
    | some .string => if P.cellsOf t = 1 then some [.s] else none
    | some (.array n e) => (flatK P d e).map fun l => (List.replicate n l).flatten
    | some (.struct fs) => (fs.toList.mapM fun f => flatK P d f.type).map List.flatten
    | _ => none
def wideT (P : Program) (t : TypeId) : Bool := match P.underlying t with
  | some (.array _ _) | some (.struct _) => true
  | _ => false
def ktOf (P : Program) (t : TypeId) : Option KT :=
  if isStrT P t then some ⟨false, [.s]⟩
  else if wideT P t && P.keyType t && P.tiled (P.types.size + 1) t && decide (P.types.size + 2 ≤ 10000) && !P.eqGuardType P.depth t then (flatK P (P.types.size + 1) t).map (⟨true, ·⟩)
  else none
def mapT (P : Program) (t : TypeId) : Option (TypeId × TypeId) := (P.underlying t).bind fun d => match d with
  | .map k e => some (k, e)
  | _ => none
/-- A map's key, and what stands for a value that is not there. -/
def mapI (P : Program) (t : TypeId) : Option (KT × AV) := match mapT P t with
  | some (k, e) => match ktOf P k, ((P.info? e).bind (·.zero)).bind cst1 with
    | some kt, some z => some (kt, z)
    | _, _ => none
  | none => none
def byteT (P : Program) (t : TypeId) : Bool := match elOf P t with
  | some e => (match P.underlying e with | some (.int .u8) => true | _ => false) && (szOf P e == some 1)
  | none => false
def extIxb (P : Program) (f : FuncId) : Bool := match P.funcs[f]? with
  | some fn => fn.name == "internal/bytealg.IndexByteString" && fn.body.isNone && fn.origin == ""
  | none => false
def partsAr (P : Program) (n sz : Nat) : List (Nat × Operand) → Option (List (Nat × Nat × Opd))
  | [] => some []
  | (i, x) :: r => match opd x, partsAr P n sz r with
    | some y, some r' => if i < n then some ((i * sz, sz, y) :: r') else none
    | _, _ => none
def arT (P : Program) (t : TypeId) : Option (Nat × TypeId) := (P.underlying t).bind fun d => match d with
  | .array n e => some (n, e)
  | _ => none
def ptT (P : Program) (t : TypeId) : Option TypeId := (P.underlying t).bind fun d => match d with
  | .pointer e => some e
  | _ => none

def isNilS : Operand → Bool
  | .const (.slice none 0 0) => true
  | _ => false
def isNilM : Operand → Bool
  | .const (.map none) => true
  | _ => false
def compK (P : Program) (h : Nat → Option Md) (o : Oper) : Option K :=
  match o.op with
  | .move x | .assign x => match opd x with
    | none => none
    | some y => match (o.dst.bind h : Option Md), elOf P o.type with
      | some .gr, some e => (szOf P e).map fun n => .mvg e n y
      | _, _ => some (.mv y)
  | .pick c a b => match opd c, opd a, opd b with
    | some c, some a, some b => some (.pick c a b)
    | _, _, _ => none
  | .alloc t => (zeroOf P t).map .al
  | .box _ x => (opd x).map .bx
  | .build t ps => match P.underlying t, zeroOf P t with
    | some (.struct fs), some z => if fs.toList.all (fun f => (szOf P f.type).isSome) then (partsOf P fs ps.toList).map (.bd z) else none
    | some (.array n e), some z => match szOf P e with
      | some sz => (partsAr P n sz ps.toList).map (.bd z)
      | none => none
    | _, _ => none
  | .buildSlice t n ps => match elOf P t with
    | some e => match szOf P e, rowOf 0 ps.toList, zeroOf P e with
      | some sz, some l, some z => if l.length = n ∧ 0 < sz ∧ z.length = sz ∧ n * sz ≤ 2 ^ 24 then some (.bs ((o.dst.bind h).getD .im) e sz l) else none
      | _, _, _ => none
    | none => none
  | .load t a => match opd a, szOf P t, agOf P t with
    | some a, some n, some g => if g || n == 1 then some (.ld a n g) else none
    | _, _, _ => none
  | .store t a v => match opd a, opd v, szOf P t with
    | some a, some v, some n => some (.st a v n)
    | _, _, _ => none
  | .nilCheck x => (opd x).map .nc
  | .binOp op t x y0 _ => match opd x, opd y0 with
    | some x, some y => if isBoolT P t then match op with
        | .eql => some (.eqs false x y)
        | .neq => some (.eqs true x y)
        | _ => none
      else if isPtrT P t then match op with
        | .eql => some (.eqp false x y)
        | .neq => some (.eqp true x y)
        | _ => none
      else if wideT P t then match ktOf P t, op with
        | some kt, .eql => some (.eqg kt false x y)
        | some kt, .neq => some (.eqg kt true x y)
        | _, _ => none
      else if (elOf P t).isSome then if isNilS y0 then match op with
          | .eql => some (.isn false false x)
          | .neq => some (.isn false true x)
          | _ => none
        else none
      else if (mapT P t).isSome then if isNilM y0 then match op with
          | .eql => some (.isn true false x)
          | .neq => some (.isn true true x)
          | _ => none
        else none
      else some (.bin op x y)
    | _, _ => none
  | .unOp op _ x => (opd x).map (.un op)
  | .convert r t x => match isIntT P t, opd x with
    | some k, some x => if (P.underlying r).isSome then some (.cvi k x) else none
    | none, some x => if byteT P r && isStrT P t then some (.b2s x) else if isStrT P r && byteT P t then some (.s2b .im 0 x) else none
    | _, _ => none
  | .fieldAddr t x f => match P.underlying t, opd x with
    | some (.struct fs), some x => match fs[f]? with
      | some fl => match szOf P fl.type with
        | some (_ + 1) => some (.fa x fl.offset)
        | _ => none
      | none => none
    | _, _ => none
  | .field t x f => match P.underlying t, opd x with
    | some (.struct fs), some x => match fs[f]? with
      | some fl => match szOf P fl.type, agOf P fl.type with
        | some n, some g => if g || n == 1 then some (.fld x fl.offset n g) else none
        | _, _ => none
      | none => none
    | _, _ => none
  | .indexAddr t x i => match P.underlying t, opd x, opd i with
    | some (.slice e), some x, some i => (szOf P e).map (.ia x i)
    | some (.array n e), some x, some i => (szOf P e).map (.iar x i n)
    | _, _, _ => none
  | .index t x i => match P.underlying t, opd x, opd i with
    | some .string, some x, some i => some (.ix x i)
    | some (.array n e), some x, some i => match szOf P e, agOf P e with
      | some 1, some false => some (.ixv x i n)
      | _, _ => none
    | _, _, _ => none
  | .slice t x lo hi none => match P.underlying t, opd x, opdO lo, opdO hi with
    | some .string, some x, some lo, some hi => some (.sli true x lo hi 1)
    | some (.slice e), some x, some lo, some hi => (szOf P e).map (.sli false x lo hi)
    | some (.pointer r), some x, some lo, some hi => match arT P r with
      | some (n, e) => (szOf P e).map (.sla x lo hi n)
      | none => none
    | some (.array n e), some x, some lo, some hi => (szOf P e).map (.sla x lo hi n)
    | _, _, _, _ => none
  | .extract x i => (opd x).map (.ext · i)
  | .makeFunc (.func f) first caps => if first.isEmpty then (opds caps.toList).map (.mkf f) else none
  | .call c => match c.callee with
    | .value (.func f) => if callOk P f then (opds c.args.toList).map (.call f) else if extIxb P f then (match c.args.toList with
        | [x, y] => match opd x, opd y with
          | some x, some y => some (.ixb f x y)
          | _, _ => none
        | _ => none) else none
    | .value (.tmp g) => (opds c.args.toList).map (.callv (.t g))
    | .builtin .len => match c.argTypes.toList, c.args.toList with
      | [t], [x] => match P.underlying t, opd x with
        | some .string, some x => some (.len true x)
        | some (.slice _), some x => some (.len false x)
        | _, _ => none
      | _, _ => none
    | .builtin .min => (opds c.args.toList).map .mn
    | .builtin .max => (opds c.args.toList).map .mx
    | .builtin .append => match c.argTypes.toList, c.args.toList with
      | [t, tx], [s, x] => match elOf P t, opd s, opd x with
        | some e, some s, some x => match szOf P e, byOf P e, zeroOf P e with
          | some sz, some by', some z => if 0 < sz ∧ z.length = sz ∧ ((elOf P tx).isSome || isStrT P tx) = true then some (.app ((o.dst.bind h).getD .gr) e sz by' s x) else none
          | _, _, _ => none
        | _, _, _ => none
      | _, _ => none
    | .builtin .copy => match c.argTypes.toList, c.args.toList with
      | [t, tx], [s, x] => match elOf P t, opd s, opd x with
        | some e, some s, some x => match szOf P e with
          | some sz => if 0 < sz ∧ ((elOf P tx).isSome || isStrT P tx) = true then some (.cpy sz s x) else none
          | none => none
        | _, _, _ => none
      | _, _ => none
    | .builtin .delete => match c.argTypes.toList, c.args.toList with
      | [t, _], [m, k] => match mapI P t, opd m, opd k with
        | some (kt, _), some m, some k => some (.del kt m k)
        | _, _, _ => none
      | _, _ => none
    | _ => none
  | .makeSlice t n c => match elOf P t, opd n, opd c with
    | some e, some n, some c => match szOf P e, byOf P e, zeroOf P e with
      | some sz, some by', some z => if 0 < sz ∧ z.length = sz ∧ 0 < by' then some (.mks .hp e sz by' z n c) else none
      | _, _, _ => none
    | _, _, _ => none
  | .makeMap t none => (mapI P t).map fun p => .mkm p.1
  | .makeMap t (some (.const (.int _ _))) => (mapI P t).map fun p => .mkm p.1
  | .lookup t m k ok => match mapI P t, opd m, opd k with
    | some (kt, z), some m, some k => some (.lk kt z m k ok)
    | _, _, _ => none
  | .mapUpdate t m k v => match mapI P t, opd m, opd k, opd v with
    | some (kt, _), some m, some k, some v => some (.mu kt m k v)
    | _, _, _, _ => none
  | .insert t m k v => match mapI P t, opd m, opd k, opd v with
    | some (kt, _), some m, some k, some v => some (.mu kt m k v)
    | _, _, _, _ => none
  | .mapEntry t m k => match mapI P t, opd m, opd k with
    | some (kt, z), some m, some k => some (.me kt z m k)
    | _, _, _ => none
  | .entryStore _ m st v => match opd m, opd st, opd v with
    | some m, some st, some v => some (.mes m st v)
    | _, _, _ => none
  | _ => none

def compIns (P : Program) (h : Nat → Option Md) (ops : Array Oper) (o : Oper) : Option Ins :=
  match compK P h o with
  | none => none
  | some k => match o.guard with
    | none => some ⟨o.dst, k, none⟩
    | some (j, b) => match ((ops[j]?).bind (·.dst) : Option Nat) with
      | some g => some ⟨o.dst, k, some (g, b)⟩
      | none => none

def compL (P : Program) (h : Nat → Option Md) (ops : Array Oper) : List Oper → Option (List Ins)
  | [] => some []
  | o :: r => match compIns P h ops o, compL P h ops r with
    | some i, some l => some (i :: l)
    | _, _ => none

/-- Which operations of a region that draws must have come up before each. -/
def prOf (ops : Array Oper) : List (List Nat) := ops.toList.map fun o => (o.after.toList.filter (Region.binds .any)).map (·.on)

def comp (P : Program) (h : Nat → Option Md) : Code → Option AC
  | .skip => some .skip
  | .region _ ops draw => match compL P h ops ops.toList with
    | some l => if draw then some (.dreg (prOf ops) l) else some (.reg l)
    | none => none
  | .seq a b => match comp P h a, comp P h b with
    | some a, some b => some (.seq a b)
    | _, _ => none
  | .cond c a b => match opd c, comp P h a, comp P h b with
    | some c, some a, some b => some (.cond c a b)
    | _, _, _ => none
  | .block id c => (comp P h c).map (.block id)
  | .loop c => (comp P h c).map .loop
  | .exit id => some (.exit id)
  | .ret => some .ret
  | _ => none

end Go.Proofs.Ytalhmnijkkihgaa
