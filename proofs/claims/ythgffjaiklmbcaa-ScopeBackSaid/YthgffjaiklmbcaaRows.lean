/-
  No cell of these rows narrows 'for every input' (looked for: loops, veiled, ifaces, maps, wideKeys, modest, calm, conditions, laid).
  DERIVED. THE GIVEN ROWS OF THIS SEAT. 5 by the template 'for every input the law returns true; each argument reads behind the call as it read before'; 0 by the template 'total and deterministic' (their statements: YthgffjaiklmbcaaTotals.lean).
  GIVEN WITH THE SEED: the statements are not yours to turn. If you find one false, say at which input.
  Laid BY PROGRAM, IN A SANDBOX (cutbox-rows.mjs): the forced cells as the released guide's own fill.sh prints them over the translation 7fe8c6af80f97cb4… (all of the seat's roots in one cut). By AI agents, Wed Nov 11 2026. No macro, syntax, notation, axiom, sorry.
-/
import Derived.Test.YthgffjaiklmbcaaChecked
import GoSem.Claim
import GoSem.ClaimJoined
import GoSem.ClaimMapViews
import Derived.JoinedTies
import Derived.KernelRfl
namespace Go.Proofs.Ythgffjaiklmbcaa
/- THE CELL 'sum', in the pinned program and in every row, IS THE sha256 OF THE DUMP (.gsa) THAT YthgffjaiklmbcaaProg.lean LOADS. Nothing in Lean hashes anything: it is a label: what it is worth is what the hold of that sum in a sandbox is worth. -/
noncomputable def Try.pinned : Pinned := { name := "ythgffjaiklmbcaa", sum := "7fe8c6af80f97cb4bda91d3d62f489f1439b25a00ea3ab249fc97656e35f0854", checked := Try.checked }
namespace Rows
def none {H : Type} : Left H := { results := [], args := [] }

/-- 'spinetlaw15.ScopeDeep': WHATEVER THE INPUT: true; the input reads as it did. -/
def scopeDeepSpec : ChangeSpec := { name := "scopeDeep", fn := fun _ => fun
  | [d] => { results := [.lit (.bool true)], args := [d] }
  | _ => none }
def scopeDeepRow : OpenClaim := { program := "ythgffjaiklmbcaa", sum := "7fe8c6af80f97cb4bda91d3d62f489f1439b25a00ea3ab249fc97656e35f0854", func := "spinet/spinetlaw15.ScopeDeep", spec := "scopeDeep", plainKeys := false, apart := false }
def ScopeDeepSaid : Prop := scopeDeepRow.holds Try.pinned (OpenSpec.ofChange scopeDeepSpec)

/-- ITS FALSE NEIGHBOUR: 'it returns false'. Refute it at one input. -/
def scopeDeepWrong : ChangeSpec := { name := "scopeDeep", fn := fun _ => fun
  | [d] => { results := [.lit (.bool false)], args := [d] }
  | _ => none }
def ScopeDeepWrongFalsely : Prop := scopeDeepRow.holds Try.pinned (OpenSpec.ofChange scopeDeepWrong)

/-- 'spinetlaw15.ScopePlays': WHATEVER THE INPUT: true; the input reads as it did. -/
def scopePlaysSpec : ChangeSpec := { name := "scopePlays", fn := fun _ => fun
  | [d] => { results := [.lit (.bool true)], args := [d] }
  | _ => none }
def scopePlaysRow : OpenClaim := { program := "ythgffjaiklmbcaa", sum := "7fe8c6af80f97cb4bda91d3d62f489f1439b25a00ea3ab249fc97656e35f0854", func := "spinet/spinetlaw15.ScopePlays", spec := "scopePlays", plainKeys := false, apart := false }
def ScopePlaysSaid : Prop := scopePlaysRow.holds Try.pinned (OpenSpec.ofChange scopePlaysSpec)

/-- ITS FALSE NEIGHBOUR: 'it returns false'. Refute it at one input. -/
def scopePlaysWrong : ChangeSpec := { name := "scopePlays", fn := fun _ => fun
  | [d] => { results := [.lit (.bool false)], args := [d] }
  | _ => none }
def ScopePlaysWrongFalsely : Prop := scopePlaysRow.holds Try.pinned (OpenSpec.ofChange scopePlaysWrong)

/-- 'spinetlaw15.ScopeBack': WHATEVER THE INPUT: true; the input reads as it did. -/
def scopeBackSpec : ChangeSpec := { name := "scopeBack", fn := fun _ => fun
  | [d1, d2] => { results := [.lit (.bool true)], args := [d1, d2] }
  | _ => none }
def scopeBackRow : OpenClaim := { program := "ythgffjaiklmbcaa", sum := "7fe8c6af80f97cb4bda91d3d62f489f1439b25a00ea3ab249fc97656e35f0854", func := "spinet/spinetlaw15.ScopeBack", spec := "scopeBack", plainKeys := false, apart := false }
def ScopeBackSaid : Prop := scopeBackRow.holds Try.pinned (OpenSpec.ofChange scopeBackSpec)

/-- ITS FALSE NEIGHBOUR: 'it returns false'. Refute it at one input. -/
def scopeBackWrong : ChangeSpec := { name := "scopeBack", fn := fun _ => fun
  | [d1, d2] => { results := [.lit (.bool false)], args := [d1, d2] }
  | _ => none }
def ScopeBackWrongFalsely : Prop := scopeBackRow.holds Try.pinned (OpenSpec.ofChange scopeBackWrong)

/-- 'spinetlaw15.ScopeNone': WHATEVER THE INPUT: true; the input reads as it did. -/
def scopeNoneSpec : ChangeSpec := { name := "scopeNone", fn := fun _ => fun
  | [d1, d2] => { results := [.lit (.bool true)], args := [d1, d2] }
  | _ => none }
def scopeNoneRow : OpenClaim := { program := "ythgffjaiklmbcaa", sum := "7fe8c6af80f97cb4bda91d3d62f489f1439b25a00ea3ab249fc97656e35f0854", func := "spinet/spinetlaw15.ScopeNone", spec := "scopeNone", plainKeys := false, apart := false }
def ScopeNoneSaid : Prop := scopeNoneRow.holds Try.pinned (OpenSpec.ofChange scopeNoneSpec)

/-- ITS FALSE NEIGHBOUR: 'it returns false'. Refute it at one input. -/
def scopeNoneWrong : ChangeSpec := { name := "scopeNone", fn := fun _ => fun
  | [d1, d2] => { results := [.lit (.bool false)], args := [d1, d2] }
  | _ => none }
def ScopeNoneWrongFalsely : Prop := scopeNoneRow.holds Try.pinned (OpenSpec.ofChange scopeNoneWrong)

/-- 'spinetlaw15.ScopeFull': WHATEVER THE INPUT: true; the input reads as it did. -/
def scopeFullSpec : ChangeSpec := { name := "scopeFull", fn := fun _ => fun
  | [d1, d2] => { results := [.lit (.bool true)], args := [d1, d2] }
  | _ => none }
def scopeFullRow : OpenClaim := { program := "ythgffjaiklmbcaa", sum := "7fe8c6af80f97cb4bda91d3d62f489f1439b25a00ea3ab249fc97656e35f0854", func := "spinet/spinetlaw15.ScopeFull", spec := "scopeFull", plainKeys := false, apart := false }
def ScopeFullSaid : Prop := scopeFullRow.holds Try.pinned (OpenSpec.ofChange scopeFullSpec)

/-- ITS FALSE NEIGHBOUR: 'it returns false'. Refute it at one input. -/
def scopeFullWrong : ChangeSpec := { name := "scopeFull", fn := fun _ => fun
  | [d1, d2] => { results := [.lit (.bool false)], args := [d1, d2] }
  | _ => none }
def ScopeFullWrongFalsely : Prop := scopeFullRow.holds Try.pinned (OpenSpec.ofChange scopeFullWrong)

/- THE SECOND FORM. 'bulk': how many values and letters a reading holds, each counted each time it is reached (what is shared counts as often as it is met; a slice's spare places count too). A statement '..UptoSaid' is the law's where the arguments, and the package variables that the reading takes, are together of bulk at most 1048576: NARROWER than '..Said'. Prove '..Said' where nothing that the law and all that it calls make is longer than what came in: it says more and counts as full. Else prove '..UptoSaid'. A law counts once. -/
mutual
def uptoBulk {H : Type} : DataW H → Nat
  | .lit (.string bytes) => bytes.length + 1
  | .lit _ => 1
  | .nil => 1
  | .ptr d => uptoBulk d + 1
  | .slice elems spare => uptoBulkAll elems + uptoBulkAll spare + 1
  | .agg parts => uptoBulkAll parts + 1
  | .iface _ d => uptoBulk d + 1
  | .map entries => uptoBulkEntries entries + 1
  | .held _ => 1
def uptoBulkAll {H : Type} : List (DataW H) → Nat
  | [] => 0
  | d :: r => uptoBulk d + uptoBulkAll r
def uptoBulkEntries {H : Type} : List (Lit × DataW H) → Nat
  | [] => 0
  | x :: r => uptoBulkEntry x + uptoBulkEntries r
def uptoBulkEntry {H : Type} : Lit × DataW H → Nat
  | (.string bytes, d) => bytes.length + uptoBulk d + 1
  | (_, d) => uptoBulk d + 1
 end
def uptoSmall : (H : Type) → List (DataW H) → Bool := fun _ ds => decide (uptoBulkAll ds ≤ 1048576)
def OpenSpec.upto (s : _root_.Go.ChangeSpec) : _root_.Go.OpenSpec := { _root_.Go.OpenSpec.ofChange s with cond := some uptoSmall }

/-- 'spinetlaw15.ScopeDeep', WHERE WHAT IT READS IS OF BULK AT MOST 1048576: true; the input reads as it did. -/
def scopeDeepUptoRow : OpenClaim := { program := "ythgffjaiklmbcaa", sum := "7fe8c6af80f97cb4bda91d3d62f489f1439b25a00ea3ab249fc97656e35f0854", func := "spinet/spinetlaw15.ScopeDeep", spec := "scopeDeep", plainKeys := false, apart := false, narrowed := true }
def ScopeDeepUptoSaid : Prop := scopeDeepUptoRow.holds Try.pinned (OpenSpec.upto scopeDeepSpec)

/-- 'spinetlaw15.ScopePlays', WHERE WHAT IT READS IS OF BULK AT MOST 1048576: true; the input reads as it did. -/
def scopePlaysUptoRow : OpenClaim := { program := "ythgffjaiklmbcaa", sum := "7fe8c6af80f97cb4bda91d3d62f489f1439b25a00ea3ab249fc97656e35f0854", func := "spinet/spinetlaw15.ScopePlays", spec := "scopePlays", plainKeys := false, apart := false, narrowed := true }
def ScopePlaysUptoSaid : Prop := scopePlaysUptoRow.holds Try.pinned (OpenSpec.upto scopePlaysSpec)

/-- 'spinetlaw15.ScopeBack', WHERE WHAT IT READS IS OF BULK AT MOST 1048576: true; the input reads as it did. -/
def scopeBackUptoRow : OpenClaim := { program := "ythgffjaiklmbcaa", sum := "7fe8c6af80f97cb4bda91d3d62f489f1439b25a00ea3ab249fc97656e35f0854", func := "spinet/spinetlaw15.ScopeBack", spec := "scopeBack", plainKeys := false, apart := false, narrowed := true }
def ScopeBackUptoSaid : Prop := scopeBackUptoRow.holds Try.pinned (OpenSpec.upto scopeBackSpec)

/-- 'spinetlaw15.ScopeNone', WHERE WHAT IT READS IS OF BULK AT MOST 1048576: true; the input reads as it did. -/
def scopeNoneUptoRow : OpenClaim := { program := "ythgffjaiklmbcaa", sum := "7fe8c6af80f97cb4bda91d3d62f489f1439b25a00ea3ab249fc97656e35f0854", func := "spinet/spinetlaw15.ScopeNone", spec := "scopeNone", plainKeys := false, apart := false, narrowed := true }
def ScopeNoneUptoSaid : Prop := scopeNoneUptoRow.holds Try.pinned (OpenSpec.upto scopeNoneSpec)

/-- 'spinetlaw15.ScopeFull', WHERE WHAT IT READS IS OF BULK AT MOST 1048576: true; the input reads as it did. -/
def scopeFullUptoRow : OpenClaim := { program := "ythgffjaiklmbcaa", sum := "7fe8c6af80f97cb4bda91d3d62f489f1439b25a00ea3ab249fc97656e35f0854", func := "spinet/spinetlaw15.ScopeFull", spec := "scopeFull", plainKeys := false, apart := false, narrowed := true }
def ScopeFullUptoSaid : Prop := scopeFullUptoRow.holds Try.pinned (OpenSpec.upto scopeFullSpec)

end Rows
end Go.Proofs.Ythgffjaiklmbcaa
