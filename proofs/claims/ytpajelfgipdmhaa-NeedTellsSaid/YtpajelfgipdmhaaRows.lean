/-
  NARROWER THAN 'FOR EVERY INPUT', by the rows' own cells (each row's printed sentence says how): NeedTells: loops · NeedParts: loops.
  DERIVED. THE GIVEN ROWS OF THIS SEAT. 3 by the template 'for every input the law returns true; each argument reads behind the call as it read before'; 0 by the template 'total and deterministic' (their statements: YtpajelfgipdmhaaTotals.lean).
  GIVEN WITH THE SEED: the statements are not yours to turn. If you find one false, say at which input.
  Laid BY PROGRAM, IN A SANDBOX (cutbox-rows.mjs): the forced cells as the released guide's own fill.sh prints them over the translation 2b135ec15831126f… (all of the seat's roots in one cut). By AI agents, Wed Nov 11 2026. No macro, syntax, notation, axiom, sorry.
-/
import Derived.Test.YtpajelfgipdmhaaChecked
import GoSem.Claim
import GoSem.ClaimJoined
import GoSem.ClaimMapViews
import Derived.JoinedTies
import Derived.KernelRfl
namespace Go.Proofs.Ytpajelfgipdmhaa
/- THE CELL 'sum', in the pinned program and in every row, IS THE sha256 OF THE DUMP (.gsa) THAT YtpajelfgipdmhaaProg.lean LOADS. Nothing in Lean hashes anything: it is a label: what it is worth is what the hold of that sum in a sandbox is worth. -/
noncomputable def Try.pinned : Pinned := { name := "ytpajelfgipdmhaa", sum := "2b135ec15831126feeafcf364db38c46d932fb8c8ee6b853d1350493f1e2c090", checked := Try.checked }
namespace Rows
def none {H : Type} : Left H := { results := [], args := [] }

/-- 'spinetlaw19.NeedTells': WHATEVER THE INPUT: true; the input reads as it did. -/
def needTellsSpec : ChangeSpec := { name := "needTells", fn := fun _ => fun
  | [d] => { results := [.lit (.bool true)], args := [d] }
  | _ => none }
def needTellsRow : OpenClaim := { program := "ytpajelfgipdmhaa", sum := "2b135ec15831126feeafcf364db38c46d932fb8c8ee6b853d1350493f1e2c090", func := "spinet/spinetlaw19.NeedTells", spec := "needTells", recurses := true, loops := true, apart := false }
def NeedTellsSaid : Prop := needTellsRow.holds Try.pinned (OpenSpec.ofChange needTellsSpec)

/-- ITS FALSE NEIGHBOUR: 'it returns false'. Refute it at one input. -/
def needTellsWrong : ChangeSpec := { name := "needTells", fn := fun _ => fun
  | [d] => { results := [.lit (.bool false)], args := [d] }
  | _ => none }
def NeedTellsWrongFalsely : Prop := needTellsRow.holds Try.pinned (OpenSpec.ofChange needTellsWrong)

/-- 'spinetlaw19.NeedParts': WHATEVER THE INPUT: true; the input reads as it did. -/
def needPartsSpec : ChangeSpec := { name := "needParts", fn := fun _ => fun
  | [d] => { results := [.lit (.bool true)], args := [d] }
  | _ => none }
def needPartsRow : OpenClaim := { program := "ytpajelfgipdmhaa", sum := "2b135ec15831126feeafcf364db38c46d932fb8c8ee6b853d1350493f1e2c090", func := "spinet/spinetlaw19.NeedParts", spec := "needParts", recurses := true, loops := true, apart := false }
def NeedPartsSaid : Prop := needPartsRow.holds Try.pinned (OpenSpec.ofChange needPartsSpec)

/-- ITS FALSE NEIGHBOUR: 'it returns false'. Refute it at one input. -/
def needPartsWrong : ChangeSpec := { name := "needParts", fn := fun _ => fun
  | [d] => { results := [.lit (.bool false)], args := [d] }
  | _ => none }
def NeedPartsWrongFalsely : Prop := needPartsRow.holds Try.pinned (OpenSpec.ofChange needPartsWrong)

/-- 'spinetlaw19.NeedRows': WHATEVER THE INPUT: true; the input reads as it did. -/
def needRowsSpec : ChangeSpec := { name := "needRows", fn := fun _ => fun
  | [d] => { results := [.lit (.bool true)], args := [d] }
  | _ => none }
def needRowsRow : OpenClaim := { program := "ytpajelfgipdmhaa", sum := "2b135ec15831126feeafcf364db38c46d932fb8c8ee6b853d1350493f1e2c090", func := "spinet/spinetlaw19.NeedRows", spec := "needRows", recurses := true, apart := false }
def NeedRowsSaid : Prop := needRowsRow.holds Try.pinned (OpenSpec.ofChange needRowsSpec)

/-- ITS FALSE NEIGHBOUR: 'it returns false'. Refute it at one input. -/
def needRowsWrong : ChangeSpec := { name := "needRows", fn := fun _ => fun
  | [d] => { results := [.lit (.bool false)], args := [d] }
  | _ => none }
def NeedRowsWrongFalsely : Prop := needRowsRow.holds Try.pinned (OpenSpec.ofChange needRowsWrong)

/- THE SECOND FORM. 'bulk': how many values and letters a reading holds, each counted each time it is reached (what is shared counts as often as it is met; a slice's spare places count too). A statement '..UptoSaid' is the law's where the arguments, and the package variables that the reading takes, are together of bulk at most 1048576: NARROWER than '..Said'. Prove '..Said' where nothing that the law and all that it calls make is longer than what came in: it says more and counts as full. Else prove '..UptoSaid'. A law counts once. -/
mutual
def uptoBulk {H : Type} : DataW H → Nat
  | .lit (.string bytes) => bytes.length + 1
  | .lit _ => 1
  | .nil => 1
  | .ptr d => uptoBulk d + 1
  | .slice elems spare => uptoBulkAll elems + uptoBulkAll spare + 1
  | .agg parts => uptoBulkAll parts + 1
  | .iface _ d => uptoBulk d + 1
  | .map entries => uptoBulkEntries entries + 1
  | .held _ => 1
def uptoBulkAll {H : Type} : List (DataW H) → Nat
  | [] => 0
  | d :: r => uptoBulk d + uptoBulkAll r
def uptoBulkEntries {H : Type} : List (Lit × DataW H) → Nat
  | [] => 0
  | x :: r => uptoBulkEntry x + uptoBulkEntries r
def uptoBulkEntry {H : Type} : Lit × DataW H → Nat
  | (.string bytes, d) => bytes.length + uptoBulk d + 1
  | (_, d) => uptoBulk d + 1
 end
def uptoSmall : (H : Type) → List (DataW H) → Bool := fun _ ds => decide (uptoBulkAll ds ≤ 1048576)
def OpenSpec.upto (s : _root_.Go.ChangeSpec) : _root_.Go.OpenSpec := { _root_.Go.OpenSpec.ofChange s with cond := some uptoSmall }

/-- 'spinetlaw19.NeedTells', WHERE WHAT IT READS IS OF BULK AT MOST 1048576: true; the input reads as it did. -/
def needTellsUptoRow : OpenClaim := { program := "ytpajelfgipdmhaa", sum := "2b135ec15831126feeafcf364db38c46d932fb8c8ee6b853d1350493f1e2c090", func := "spinet/spinetlaw19.NeedTells", spec := "needTells", recurses := true, loops := true, apart := false, narrowed := true }
def NeedTellsUptoSaid : Prop := needTellsUptoRow.holds Try.pinned (OpenSpec.upto needTellsSpec)

/-- 'spinetlaw19.NeedParts', WHERE WHAT IT READS IS OF BULK AT MOST 1048576: true; the input reads as it did. -/
def needPartsUptoRow : OpenClaim := { program := "ytpajelfgipdmhaa", sum := "2b135ec15831126feeafcf364db38c46d932fb8c8ee6b853d1350493f1e2c090", func := "spinet/spinetlaw19.NeedParts", spec := "needParts", recurses := true, loops := true, apart := false, narrowed := true }
def NeedPartsUptoSaid : Prop := needPartsUptoRow.holds Try.pinned (OpenSpec.upto needPartsSpec)

/-- 'spinetlaw19.NeedRows', WHERE WHAT IT READS IS OF BULK AT MOST 1048576: true; the input reads as it did. -/
def needRowsUptoRow : OpenClaim := { program := "ytpajelfgipdmhaa", sum := "2b135ec15831126feeafcf364db38c46d932fb8c8ee6b853d1350493f1e2c090", func := "spinet/spinetlaw19.NeedRows", spec := "needRows", recurses := true, apart := false, narrowed := true }
def NeedRowsUptoSaid : Prop := needRowsUptoRow.holds Try.pinned (OpenSpec.upto needRowsSpec)

end Rows
end Go.Proofs.Ytpajelfgipdmhaa
