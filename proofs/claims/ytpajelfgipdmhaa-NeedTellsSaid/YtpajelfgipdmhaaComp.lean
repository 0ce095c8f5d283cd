/-
  One's own library, part 4: the model's operations turned into the small language.
-/
import Derived.Test.YtpajelfgipdmhaaHeap3
namespace Go.Proofs.Ytpajelfgipdmhaa
open Go.RowKit

def szOf (P : Program) (t : TypeId) : Option Nat := (P.info? t).map (·.size)
def byOf (P : Program) (t : TypeId) : Option Nat := (P.info? t).map (·.bytes)
def agOf (P : Program) (t : TypeId) : Option Bool := (P.underlying t).map fun d => match d with
  | .struct _ | .array _ _ => true
  | _ => false
def elOf (P : Program) (t : TypeId) : Option TypeId := (P.underlying t).bind fun d => match d with
  | .slice e => some e
  | _ => none
def zeroOf (P : Program) (t : TypeId) : Option (List AV) := ((P.info? t).bind (·.zero)).bind fun z => z.cells.toList.mapM cst1
def opds (l : List Operand) : Option (List Opd) := l.mapM opd
def opdO : Option Operand → Option (Option Opd)
  | none => some none
  | some x => (opd x).map some

def partsOf (P : Program) (fs : Array Field) : List (Nat × Operand) → Option (List (Nat × Nat × Opd))
  | [] => some []
  | (i, x) :: r => match fs[i]?, opd x, partsOf P fs r with
    | some f, some y, some r' => match szOf P f.type with
      | some n => some ((f.offset, n, y) :: r')
      | none => none
    | _, _, _ => none
/-- The parts of a slice's literal, one behind the other. -/
def rowOf : Nat → List (Nat × Operand) → Option (List Opd)
  | _, [] => some []
  | k, (i, x) :: r => if i = k then match opd x, rowOf (k + 1) r with
      | some y, some r' => some (y :: r')
      | _, _ => none
    else none

def isBoolT (P : Program) (t : TypeId) : Bool := match P.underlying t with
  | some .bool => true
  | _ => false
def isStrT (P : Program) (t : TypeId) : Bool := match P.underlying t with
  | some .string => true
  | _ => false
def isPtrT (P : Program) (t : TypeId) : Bool := match P.underlying t with
  | some (.pointer _) => true
  | _ => false
def isIntT (P : Program) (t : TypeId) : Option IntKind := match P.underlying t with
  | some (.int k) => some k
  | _ => none

def compK (P : Program) (h : Nat → Option Md) (o : Oper) : Option K :=
  match o.op with
  | .move x | .assign x => match opd x with
    | none => none
    | some y => match (o.dst.bind h : Option Md), elOf P o.type with
      | some .gr, some e => (szOf P e).map fun n => .mvg e n y
      | _, _ => some (.mv y)
  | .pick c a b => match opd c, opd a, opd b with
    | some c, some a, some b => some (.pick c a b)
    | _, _, _ => none
  | .alloc t => (zeroOf P t).map .al
  | .box _ x => (opd x).map .bx
  | .build t ps => match P.underlying t, zeroOf P t with
    | some (.struct fs), some z => if fs.toList.all (fun f => (szOf P f.type).isSome) then (partsOf P fs ps.toList).map (.bd z) else none
    | _, _ => none
  | .buildSlice t n ps => match elOf P t with
    | some e => match szOf P e, rowOf 0 ps.toList, zeroOf P e with
      | some sz, some l, some z => if l.length = n ∧ 0 < sz ∧ z.length = sz ∧ n * sz ≤ 2 ^ 24 then some (.bs ((o.dst.bind h).getD .im) e sz l) else none
      | _, _, _ => none
    | none => none
  | .load t a => match opd a, szOf P t, agOf P t with
    | some a, some n, some g => if g || n == 1 then some (.ld a n g) else none
    | _, _, _ => none
  | .store t a v => match opd a, opd v, szOf P t with
    | some a, some v, some n => some (.st a v n)
    | _, _, _ => none
  | .nilCheck x => (opd x).map .nc
  | .binOp op t x y _ => match opd x, opd y with
    | some x, some y => if isBoolT P t then match op with
        | .eql => some (.eqs false x y)
        | .neq => some (.eqs true x y)
        | _ => none
      else if isPtrT P t then match op with
        | .eql => some (.eqp false x y)
        | .neq => some (.eqp true x y)
        | _ => none
      else some (.bin op x y)
    | _, _ => none
  | .unOp op _ x => (opd x).map (.un op)
  | .convert r t x => match isIntT P t, opd x with
    | some k, some x => if (P.underlying r).isSome then some (.cvi k x) else none
    | _, _ => none
  | .fieldAddr t x f => match P.underlying t, opd x with
    | some (.struct fs), some x => match fs[f]? with
      | some fl => match szOf P fl.type with
        | some (_ + 1) => some (.fa x fl.offset)
        | _ => none
      | none => none
    | _, _ => none
  | .field t x f => match P.underlying t, opd x with
    | some (.struct fs), some x => match fs[f]? with
      | some fl => match szOf P fl.type, agOf P fl.type with
        | some n, some g => if g || n == 1 then some (.fld x fl.offset n g) else none
        | _, _ => none
      | none => none
    | _, _ => none
  | .indexAddr t x i => match P.underlying t, opd x, opd i with
    | some (.slice e), some x, some i => (szOf P e).map (.ia x i)
    | some (.array n e), some x, some i => (szOf P e).map (.iar x i n)
    | _, _, _ => none
  | .index t x i => match P.underlying t, opd x, opd i with
    | some .string, some x, some i => some (.ix x i)
    | _, _, _ => none
  | .slice t x lo hi none => match P.underlying t, opd x, opdO lo, opdO hi with
    | some .string, some x, some lo, some hi => some (.sli true x lo hi 1)
    | some (.slice e), some x, some lo, some hi => (szOf P e).map (.sli false x lo hi)
    | _, _, _, _ => none
  | .extract x i => (opd x).map (.ext · i)
  | .makeFunc (.func f) first caps => if first.isEmpty then (opds caps.toList).map (.mkf f) else none
  | .call c => match c.callee with
    | .value (.func f) => if callOk P f then (opds c.args.toList).map (.call f) else none
    | .value (.tmp g) => (opds c.args.toList).map (.callv (.t g))
    | .builtin .len => match c.argTypes.toList, c.args.toList with
      | [t], [x] => match P.underlying t, opd x with
        | some .string, some x => some (.len true x)
        | some (.slice _), some x => some (.len false x)
        | _, _ => none
      | _, _ => none
    | .builtin .min => (opds c.args.toList).map .mn
    | .builtin .max => (opds c.args.toList).map .mx
    | .builtin .append => match c.argTypes.toList, c.args.toList with
      | [t, tx], [s, x] => match elOf P t, opd s, opd x with
        | some e, some s, some x => match szOf P e, byOf P e, zeroOf P e with
          | some sz, some by', some z => if 0 < sz ∧ z.length = sz ∧ ((elOf P tx).isSome || isStrT P tx) = true then some (.app ((o.dst.bind h).getD .gr) e sz by' s x) else none
          | _, _, _ => none
        | _, _, _ => none
      | _, _ => none
    | _ => none
  | _ => none

def compIns (P : Program) (h : Nat → Option Md) (ops : Array Oper) (o : Oper) : Option Ins :=
  match compK P h o with
  | none => none
  | some k => match o.guard with
    | none => some ⟨o.dst, k, none⟩
    | some (j, b) => match ((ops[j]?).bind (·.dst) : Option Nat) with
      | some g => some ⟨o.dst, k, some (g, b)⟩
      | none => none

def compL (P : Program) (h : Nat → Option Md) (ops : Array Oper) : List Oper → Option (List Ins)
  | [] => some []
  | o :: r => match compIns P h ops o, compL P h ops r with
    | some i, some l => some (i :: l)
    | _, _ => none

/-- Which operations of a region that draws must have come up before each. -/
def prOf (ops : Array Oper) : List (List Nat) := ops.toList.map fun o => (o.after.toList.filter (Region.binds .any)).map (·.on)

def comp (P : Program) (h : Nat → Option Md) : Code → Option AC
  | .skip => some .skip
  | .region _ ops draw => match compL P h ops ops.toList with
    | some l => if draw then some (.dreg (prOf ops) l) else some (.reg l)
    | none => none
  | .seq a b => match comp P h a, comp P h b with
    | some a, some b => some (.seq a b)
    | _, _ => none
  | .cond c a b => match opd c, comp P h a, comp P h b with
    | some c, some a, some b => some (.cond c a b)
    | _, _, _ => none
  | .block id c => (comp P h c).map (.block id)
  | .loop c => (comp P h c).map .loop
  | .exit id => some (.exit id)
  | .ret => some .ret
  | _ => none

end Go.Proofs.Ytpajelfgipdmhaa
