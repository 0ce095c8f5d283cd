/- Plain law: chains of bases; fields' names. -/
import Derived.Test.YtlhpcccffmfopaaT6
namespace Go.Proofs.Ytlhpcccffmfopaa
set_option linter.unusedSectionVars false
set_option linter.unusedSimpArgs false
set_option linter.unusedVariables false

/-- A record's bases, itself first, at most so many. -/
def chain (t : List Ty) : Nat → Int → List Int
  | 0, a => [a]
  | n + 1, a => a :: if (tyAt t a).base = 0 then [] else chain t n (tyAt t a).base
def namesL (t : List Ty) (l : List Int) : List ByteArray := l.flatMap fun a => (tyAt t a).fields.map Fd.name
/-- Few bases, and no field twice. -/
def ChainP (t : List Ty) (a : Int) : Prop := (chain t 5 a).length ≤ 5 ∧ (namesL t (chain t 5 a)).Nodup
end Go.Proofs.Ytlhpcccffmfopaa
