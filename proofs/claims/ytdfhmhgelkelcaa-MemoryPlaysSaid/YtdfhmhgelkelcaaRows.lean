/-
  No cell of these rows narrows 'for every input' (looked for: loops, veiled, ifaces, maps, wideKeys, modest, calm, conditions, laid).
  DERIVED. THE GIVEN ROWS OF THIS SEAT. 4 by the template 'for every input the law returns true; each argument reads behind the call as it read before'; 0 by the template 'total and deterministic' (their statements: YtdfhmhgelkelcaaTotals.lean).
  GIVEN WITH THE SEED: the statements are not yours to turn. If you find one false, say at which input.
  Laid BY PROGRAM, IN A SANDBOX (cutbox-rows.mjs): the forced cells as the released guide's own fill.sh prints them over the translation 779a16d40de9a1c8… (all of the seat's roots in one cut). By AI agents, Wed Nov 11 2026. No macro, syntax, notation, axiom, sorry.
-/
import Derived.Test.YtdfhmhgelkelcaaChecked
import GoSem.Claim
import GoSem.ClaimJoined
import GoSem.ClaimMapViews
import Derived.JoinedTies
import Derived.KernelRfl
namespace Go.Proofs.Ytdfhmhgelkelcaa
/- THE CELL 'sum', in the pinned program and in every row, IS THE sha256 OF THE DUMP (.gsa) THAT YtdfhmhgelkelcaaProg.lean LOADS. Nothing in Lean hashes anything: it is a label: what it is worth is what the hold of that sum in a sandbox is worth. -/
noncomputable def Try.pinned : Pinned := { name := "ytdfhmhgelkelcaa", sum := "779a16d40de9a1c8f44767df1798e296a592fbe391d2ae71f0919488a7806719", checked := Try.checked }
namespace Rows
def none {H : Type} : Left H := { results := [], args := [] }

/-- 'spinetlaw04.MemoryBytes': WHATEVER THE INPUT: true; the input reads as it did. -/
def memoryBytesSpec : ChangeSpec := { name := "memoryBytes", fn := fun _ => fun
  | [d1, d2, d3] => { results := [.lit (.bool true)], args := [d1, d2, d3] }
  | _ => none }
def memoryBytesRow : OpenClaim := { program := "ytdfhmhgelkelcaa", sum := "779a16d40de9a1c8f44767df1798e296a592fbe391d2ae71f0919488a7806719", func := "spinet/spinetlaw04.MemoryBytes", spec := "memoryBytes", apart := false }
def MemoryBytesSaid : Prop := memoryBytesRow.holds Try.pinned (OpenSpec.ofChange memoryBytesSpec)

/-- ITS FALSE NEIGHBOUR: 'it returns false'. Refute it at one input. -/
def memoryBytesWrong : ChangeSpec := { name := "memoryBytes", fn := fun _ => fun
  | [d1, d2, d3] => { results := [.lit (.bool false)], args := [d1, d2, d3] }
  | _ => none }
def MemoryBytesWrongFalsely : Prop := memoryBytesRow.holds Try.pinned (OpenSpec.ofChange memoryBytesWrong)

/-- 'spinetlaw04.MemoryForks': WHATEVER THE INPUT: true; the input reads as it did. -/
def memoryForksSpec : ChangeSpec := { name := "memoryForks", fn := fun _ => fun
  | [d1, d2, d3] => { results := [.lit (.bool true)], args := [d1, d2, d3] }
  | _ => none }
def memoryForksRow : OpenClaim := { program := "ytdfhmhgelkelcaa", sum := "779a16d40de9a1c8f44767df1798e296a592fbe391d2ae71f0919488a7806719", func := "spinet/spinetlaw04.MemoryForks", spec := "memoryForks", apart := false }
def MemoryForksSaid : Prop := memoryForksRow.holds Try.pinned (OpenSpec.ofChange memoryForksSpec)

/-- ITS FALSE NEIGHBOUR: 'it returns false'. Refute it at one input. -/
def memoryForksWrong : ChangeSpec := { name := "memoryForks", fn := fun _ => fun
  | [d1, d2, d3] => { results := [.lit (.bool false)], args := [d1, d2, d3] }
  | _ => none }
def MemoryForksWrongFalsely : Prop := memoryForksRow.holds Try.pinned (OpenSpec.ofChange memoryForksWrong)

/-- 'spinetlaw04.MemoryPlays': WHATEVER THE INPUT: true; the input reads as it did. -/
def memoryPlaysSpec : ChangeSpec := { name := "memoryPlays", fn := fun _ => fun
  | [d1, d2] => { results := [.lit (.bool true)], args := [d1, d2] }
  | _ => none }
def memoryPlaysRow : OpenClaim := { program := "ytdfhmhgelkelcaa", sum := "779a16d40de9a1c8f44767df1798e296a592fbe391d2ae71f0919488a7806719", func := "spinet/spinetlaw04.MemoryPlays", spec := "memoryPlays", apart := false }
def MemoryPlaysSaid : Prop := memoryPlaysRow.holds Try.pinned (OpenSpec.ofChange memoryPlaysSpec)

/-- ITS FALSE NEIGHBOUR: 'it returns false'. Refute it at one input. -/
def memoryPlaysWrong : ChangeSpec := { name := "memoryPlays", fn := fun _ => fun
  | [d1, d2] => { results := [.lit (.bool false)], args := [d1, d2] }
  | _ => none }
def MemoryPlaysWrongFalsely : Prop := memoryPlaysRow.holds Try.pinned (OpenSpec.ofChange memoryPlaysWrong)

/-- 'spinetlaw04.MemoryEnds': WHATEVER THE INPUT: true; the input reads as it did. -/
def memoryEndsSpec : ChangeSpec := { name := "memoryEnds", fn := fun _ => fun
  | [d1, d2] => { results := [.lit (.bool true)], args := [d1, d2] }
  | _ => none }
def memoryEndsRow : OpenClaim := { program := "ytdfhmhgelkelcaa", sum := "779a16d40de9a1c8f44767df1798e296a592fbe391d2ae71f0919488a7806719", func := "spinet/spinetlaw04.MemoryEnds", spec := "memoryEnds", apart := false }
def MemoryEndsSaid : Prop := memoryEndsRow.holds Try.pinned (OpenSpec.ofChange memoryEndsSpec)

/-- ITS FALSE NEIGHBOUR: 'it returns false'. Refute it at one input. -/
def memoryEndsWrong : ChangeSpec := { name := "memoryEnds", fn := fun _ => fun
  | [d1, d2] => { results := [.lit (.bool false)], args := [d1, d2] }
  | _ => none }
def MemoryEndsWrongFalsely : Prop := memoryEndsRow.holds Try.pinned (OpenSpec.ofChange memoryEndsWrong)

/- THE SECOND FORM. 'bulk': how many values and letters a reading holds, each counted each time it is reached (what is shared counts as often as it is met; a slice's spare places count too). A statement '..UptoSaid' is the law's where the arguments, and the package variables that the reading takes, are together of bulk at most 1048576: NARROWER than '..Said'. Prove '..Said' where nothing that the law and all that it calls make is longer than what came in: it says more and counts as full. Else prove '..UptoSaid'. A law counts once. -/
mutual
def uptoBulk {H : Type} : DataW H → Nat
  | .lit (.string bytes) => bytes.length + 1
  | .lit _ => 1
  | .nil => 1
  | .ptr d => uptoBulk d + 1
  | .slice elems spare => uptoBulkAll elems + uptoBulkAll spare + 1
  | .agg parts => uptoBulkAll parts + 1
  | .iface _ d => uptoBulk d + 1
  | .map entries => uptoBulkEntries entries + 1
  | .held _ => 1
def uptoBulkAll {H : Type} : List (DataW H) → Nat
  | [] => 0
  | d :: r => uptoBulk d + uptoBulkAll r
def uptoBulkEntries {H : Type} : List (Lit × DataW H) → Nat
  | [] => 0
  | x :: r => uptoBulkEntry x + uptoBulkEntries r
def uptoBulkEntry {H : Type} : Lit × DataW H → Nat
  | (.string bytes, d) => bytes.length + uptoBulk d + 1
  | (_, d) => uptoBulk d + 1
 end
def uptoSmall : (H : Type) → List (DataW H) → Bool := fun _ ds => decide (uptoBulkAll ds ≤ 1048576)
def OpenSpec.upto (s : _root_.Go.ChangeSpec) : _root_.Go.OpenSpec := { _root_.Go.OpenSpec.ofChange s with cond := some uptoSmall }

/-- 'spinetlaw04.MemoryBytes', WHERE WHAT IT READS IS OF BULK AT MOST 1048576: true; the input reads as it did. -/
def memoryBytesUptoRow : OpenClaim := { program := "ytdfhmhgelkelcaa", sum := "779a16d40de9a1c8f44767df1798e296a592fbe391d2ae71f0919488a7806719", func := "spinet/spinetlaw04.MemoryBytes", spec := "memoryBytes", apart := false, narrowed := true }
def MemoryBytesUptoSaid : Prop := memoryBytesUptoRow.holds Try.pinned (OpenSpec.upto memoryBytesSpec)

/-- 'spinetlaw04.MemoryForks', WHERE WHAT IT READS IS OF BULK AT MOST 1048576: true; the input reads as it did. -/
def memoryForksUptoRow : OpenClaim := { program := "ytdfhmhgelkelcaa", sum := "779a16d40de9a1c8f44767df1798e296a592fbe391d2ae71f0919488a7806719", func := "spinet/spinetlaw04.MemoryForks", spec := "memoryForks", apart := false, narrowed := true }
def MemoryForksUptoSaid : Prop := memoryForksUptoRow.holds Try.pinned (OpenSpec.upto memoryForksSpec)

/-- 'spinetlaw04.MemoryPlays', WHERE WHAT IT READS IS OF BULK AT MOST 1048576: true; the input reads as it did. -/
def memoryPlaysUptoRow : OpenClaim := { program := "ytdfhmhgelkelcaa", sum := "779a16d40de9a1c8f44767df1798e296a592fbe391d2ae71f0919488a7806719", func := "spinet/spinetlaw04.MemoryPlays", spec := "memoryPlays", apart := false, narrowed := true }
def MemoryPlaysUptoSaid : Prop := memoryPlaysUptoRow.holds Try.pinned (OpenSpec.upto memoryPlaysSpec)

/-- 'spinetlaw04.MemoryEnds', WHERE WHAT IT READS IS OF BULK AT MOST 1048576: true; the input reads as it did. -/
def memoryEndsUptoRow : OpenClaim := { program := "ytdfhmhgelkelcaa", sum := "779a16d40de9a1c8f44767df1798e296a592fbe391d2ae71f0919488a7806719", func := "spinet/spinetlaw04.MemoryEnds", spec := "memoryEnds", apart := false, narrowed := true }
def MemoryEndsUptoSaid : Prop := memoryEndsUptoRow.holds Try.pinned (OpenSpec.upto memoryEndsSpec)

end Rows
end Go.Proofs.Ytdfhmhgelkelcaa
