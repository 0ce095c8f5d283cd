/-
  No cell of these rows narrows 'for every input' (looked for: loops, veiled, ifaces, maps, wideKeys, modest, calm, conditions, laid).
  DERIVED. THE GIVEN ROWS OF THIS SEAT. 5 by the template 'for every input the law returns true; each argument reads behind the call as it read before'; 0 by the template 'total and deterministic' (their statements: YtipjjcaflcpplaaTotals.lean).
  GIVEN WITH THE SEED: the statements are not yours to turn. If you find one false, say at which input.
  Laid BY PROGRAM, IN A SANDBOX (cutbox-rows.mjs): the forced cells as the released guide's own fill.sh prints them over the translation af5ab1141c7851fe… (all of the seat's roots in one cut). By AI agents, Wed Nov 11 2026. No macro, syntax, notation, axiom, sorry.
-/
import Derived.Test.YtipjjcaflcpplaaChecked
import GoSem.Claim
import GoSem.ClaimJoined
import GoSem.ClaimMapViews
import Derived.JoinedTies
import Derived.KernelRfl
namespace Go.Proofs.Ytipjjcaflcpplaa
/- THE CELL 'sum', in the pinned program and in every row, IS THE sha256 OF THE DUMP (.gsa) THAT YtipjjcaflcpplaaProg.lean LOADS. Nothing in Lean hashes anything: it is a label: what it is worth is what the hold of that sum in a sandbox is worth. -/
noncomputable def Try.pinned : Pinned := { name := "ytipjjcaflcpplaa", sum := "af5ab1141c7851fe39f0cdfb0fb295d9f10129e1da6cdb73be76fddce9de4867", checked := Try.checked }
namespace Rows
def none {H : Type} : Left H := { results := [], args := [] }

/-- 'spinetlaw08.RiderNums': WHATEVER THE INPUT: true; the input reads as it did. -/
def riderNumsSpec : ChangeSpec := { name := "riderNums", fn := fun _ => fun
  | [d] => { results := [.lit (.bool true)], args := [d] }
  | _ => none }
def riderNumsRow : OpenClaim := { program := "ytipjjcaflcpplaa", sum := "af5ab1141c7851fe39f0cdfb0fb295d9f10129e1da6cdb73be76fddce9de4867", func := "spinet/spinetlaw08.RiderNums", spec := "riderNums", inPlace := ["internal/bytealg.IndexByteString"], apart := false }
def RiderNumsSaid : Prop := riderNumsRow.holds Try.pinned (OpenSpec.ofChange riderNumsSpec)

/-- ITS FALSE NEIGHBOUR: 'it returns false'. Refute it at one input. -/
def riderNumsWrong : ChangeSpec := { name := "riderNums", fn := fun _ => fun
  | [d] => { results := [.lit (.bool false)], args := [d] }
  | _ => none }
def RiderNumsWrongFalsely : Prop := riderNumsRow.holds Try.pinned (OpenSpec.ofChange riderNumsWrong)

/-- 'spinetlaw08.RiderWrites': WHATEVER THE INPUT: true; the input reads as it did. -/
def riderWritesSpec : ChangeSpec := { name := "riderWrites", fn := fun _ => fun
  | [d] => { results := [.lit (.bool true)], args := [d] }
  | _ => none }
def riderWritesRow : OpenClaim := { program := "ytipjjcaflcpplaa", sum := "af5ab1141c7851fe39f0cdfb0fb295d9f10129e1da6cdb73be76fddce9de4867", func := "spinet/spinetlaw08.RiderWrites", spec := "riderWrites", inPlace := ["internal/bytealg.IndexByteString"], apart := false }
def RiderWritesSaid : Prop := riderWritesRow.holds Try.pinned (OpenSpec.ofChange riderWritesSpec)

/-- ITS FALSE NEIGHBOUR: 'it returns false'. Refute it at one input. -/
def riderWritesWrong : ChangeSpec := { name := "riderWrites", fn := fun _ => fun
  | [d] => { results := [.lit (.bool false)], args := [d] }
  | _ => none }
def RiderWritesWrongFalsely : Prop := riderWritesRow.holds Try.pinned (OpenSpec.ofChange riderWritesWrong)

/-- 'spinetlaw08.RiderReads': WHATEVER THE INPUT: true; the input reads as it did. -/
def riderReadsSpec : ChangeSpec := { name := "riderReads", fn := fun _ => fun
  | [d1, d2] => { results := [.lit (.bool true)], args := [d1, d2] }
  | _ => none }
def riderReadsRow : OpenClaim := { program := "ytipjjcaflcpplaa", sum := "af5ab1141c7851fe39f0cdfb0fb295d9f10129e1da6cdb73be76fddce9de4867", func := "spinet/spinetlaw08.RiderReads", spec := "riderReads", inPlace := ["internal/bytealg.IndexByteString"], apart := false }
def RiderReadsSaid : Prop := riderReadsRow.holds Try.pinned (OpenSpec.ofChange riderReadsSpec)

/-- ITS FALSE NEIGHBOUR: 'it returns false'. Refute it at one input. -/
def riderReadsWrong : ChangeSpec := { name := "riderReads", fn := fun _ => fun
  | [d1, d2] => { results := [.lit (.bool false)], args := [d1, d2] }
  | _ => none }
def RiderReadsWrongFalsely : Prop := riderReadsRow.holds Try.pinned (OpenSpec.ofChange riderReadsWrong)

/-- 'spinetlaw08.RiderEnds': WHATEVER THE INPUT: true; the input reads as it did. -/
def riderEndsSpec : ChangeSpec := { name := "riderEnds", fn := fun _ => fun
  | [d1, d2] => { results := [.lit (.bool true)], args := [d1, d2] }
  | _ => none }
def riderEndsRow : OpenClaim := { program := "ytipjjcaflcpplaa", sum := "af5ab1141c7851fe39f0cdfb0fb295d9f10129e1da6cdb73be76fddce9de4867", func := "spinet/spinetlaw08.RiderEnds", spec := "riderEnds", inPlace := ["internal/bytealg.IndexByteString"], apart := false }
def RiderEndsSaid : Prop := riderEndsRow.holds Try.pinned (OpenSpec.ofChange riderEndsSpec)

/-- ITS FALSE NEIGHBOUR: 'it returns false'. Refute it at one input. -/
def riderEndsWrong : ChangeSpec := { name := "riderEnds", fn := fun _ => fun
  | [d1, d2] => { results := [.lit (.bool false)], args := [d1, d2] }
  | _ => none }
def RiderEndsWrongFalsely : Prop := riderEndsRow.holds Try.pinned (OpenSpec.ofChange riderEndsWrong)

/-- 'spinetlaw08.RiderBack': WHATEVER THE INPUT: true; the input reads as it did. -/
def riderBackSpec : ChangeSpec := { name := "riderBack", fn := fun _ => fun
  | [d] => { results := [.lit (.bool true)], args := [d] }
  | _ => none }
def riderBackRow : OpenClaim := { program := "ytipjjcaflcpplaa", sum := "af5ab1141c7851fe39f0cdfb0fb295d9f10129e1da6cdb73be76fddce9de4867", func := "spinet/spinetlaw08.RiderBack", spec := "riderBack", inPlace := ["internal/bytealg.IndexByteString"], apart := false }
def RiderBackSaid : Prop := riderBackRow.holds Try.pinned (OpenSpec.ofChange riderBackSpec)

/-- ITS FALSE NEIGHBOUR: 'it returns false'. Refute it at one input. -/
def riderBackWrong : ChangeSpec := { name := "riderBack", fn := fun _ => fun
  | [d] => { results := [.lit (.bool false)], args := [d] }
  | _ => none }
def RiderBackWrongFalsely : Prop := riderBackRow.holds Try.pinned (OpenSpec.ofChange riderBackWrong)

/- THE SECOND FORM. 'bulk': how many values and letters a reading holds, each counted each time it is reached (what is shared counts as often as it is met; a slice's spare places count too). A statement '..UptoSaid' is the law's where the arguments, and the package variables that the reading takes, are together of bulk at most 1048576: NARROWER than '..Said'. Prove '..Said' where nothing that the law and all that it calls make is longer than what came in: it says more and counts as full. Else prove '..UptoSaid'. A law counts once. -/
mutual
def uptoBulk {H : Type} : DataW H → Nat
  | .lit (.string bytes) => bytes.length + 1
  | .lit _ => 1
  | .nil => 1
  | .ptr d => uptoBulk d + 1
  | .slice elems spare => uptoBulkAll elems + uptoBulkAll spare + 1
  | .agg parts => uptoBulkAll parts + 1
  | .iface _ d => uptoBulk d + 1
  | .map entries => uptoBulkEntries entries + 1
  | .held _ => 1
def uptoBulkAll {H : Type} : List (DataW H) → Nat
  | [] => 0
  | d :: r => uptoBulk d + uptoBulkAll r
def uptoBulkEntries {H : Type} : List (Lit × DataW H) → Nat
  | [] => 0
  | x :: r => uptoBulkEntry x + uptoBulkEntries r
def uptoBulkEntry {H : Type} : Lit × DataW H → Nat
  | (.string bytes, d) => bytes.length + uptoBulk d + 1
  | (_, d) => uptoBulk d + 1
 end
def uptoSmall : (H : Type) → List (DataW H) → Bool := fun _ ds => decide (uptoBulkAll ds ≤ 1048576)
def OpenSpec.upto (s : _root_.Go.ChangeSpec) : _root_.Go.OpenSpec := { _root_.Go.OpenSpec.ofChange s with cond := some uptoSmall }

/-- 'spinetlaw08.RiderNums', WHERE WHAT IT READS IS OF BULK AT MOST 1048576: true; the input reads as it did. -/
def riderNumsUptoRow : OpenClaim := { program := "ytipjjcaflcpplaa", sum := "af5ab1141c7851fe39f0cdfb0fb295d9f10129e1da6cdb73be76fddce9de4867", func := "spinet/spinetlaw08.RiderNums", spec := "riderNums", inPlace := ["internal/bytealg.IndexByteString"], apart := false, narrowed := true }
def RiderNumsUptoSaid : Prop := riderNumsUptoRow.holds Try.pinned (OpenSpec.upto riderNumsSpec)

/-- 'spinetlaw08.RiderWrites', WHERE WHAT IT READS IS OF BULK AT MOST 1048576: true; the input reads as it did. -/
def riderWritesUptoRow : OpenClaim := { program := "ytipjjcaflcpplaa", sum := "af5ab1141c7851fe39f0cdfb0fb295d9f10129e1da6cdb73be76fddce9de4867", func := "spinet/spinetlaw08.RiderWrites", spec := "riderWrites", inPlace := ["internal/bytealg.IndexByteString"], apart := false, narrowed := true }
def RiderWritesUptoSaid : Prop := riderWritesUptoRow.holds Try.pinned (OpenSpec.upto riderWritesSpec)

/-- 'spinetlaw08.RiderReads', WHERE WHAT IT READS IS OF BULK AT MOST 1048576: true; the input reads as it did. -/
def riderReadsUptoRow : OpenClaim := { program := "ytipjjcaflcpplaa", sum := "af5ab1141c7851fe39f0cdfb0fb295d9f10129e1da6cdb73be76fddce9de4867", func := "spinet/spinetlaw08.RiderReads", spec := "riderReads", inPlace := ["internal/bytealg.IndexByteString"], apart := false, narrowed := true }
def RiderReadsUptoSaid : Prop := riderReadsUptoRow.holds Try.pinned (OpenSpec.upto riderReadsSpec)

/-- 'spinetlaw08.RiderEnds', WHERE WHAT IT READS IS OF BULK AT MOST 1048576: true; the input reads as it did. -/
def riderEndsUptoRow : OpenClaim := { program := "ytipjjcaflcpplaa", sum := "af5ab1141c7851fe39f0cdfb0fb295d9f10129e1da6cdb73be76fddce9de4867", func := "spinet/spinetlaw08.RiderEnds", spec := "riderEnds", inPlace := ["internal/bytealg.IndexByteString"], apart := false, narrowed := true }
def RiderEndsUptoSaid : Prop := riderEndsUptoRow.holds Try.pinned (OpenSpec.upto riderEndsSpec)

/-- 'spinetlaw08.RiderBack', WHERE WHAT IT READS IS OF BULK AT MOST 1048576: true; the input reads as it did. -/
def riderBackUptoRow : OpenClaim := { program := "ytipjjcaflcpplaa", sum := "af5ab1141c7851fe39f0cdfb0fb295d9f10129e1da6cdb73be76fddce9de4867", func := "spinet/spinetlaw08.RiderBack", spec := "riderBack", inPlace := ["internal/bytealg.IndexByteString"], apart := false, narrowed := true }
def RiderBackUptoSaid : Prop := riderBackUptoRow.holds Try.pinned (OpenSpec.upto riderBackSpec)

end Rows
end Go.Proofs.Ytipjjcaflcpplaa
