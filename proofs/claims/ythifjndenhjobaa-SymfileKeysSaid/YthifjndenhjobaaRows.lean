/-
  No cell of these rows narrows 'for every input' (looked for: loops, veiled, ifaces, maps, wideKeys, modest, calm, conditions, laid).
  DERIVED. THE GIVEN ROWS OF THIS SEAT. 11 by the template 'for every input the law returns true; each argument reads behind the call as it read before'; 0 by the template 'total and deterministic' (their statements: YthifjndenhjobaaTotals.lean).
  GIVEN WITH THE SEED: the statements are not yours to turn. If you find one false, say at which input.
  Laid BY PROGRAM, IN A SANDBOX (cutbox-rows.mjs): the forced cells as the released guide's own fill.sh prints them over the translation 5b933d272ea476df… (all of the seat's roots in one cut). By AI agents, Wed Nov 11 2026. No macro, syntax, notation, axiom, sorry.
-/
import Derived.Test.YthifjndenhjobaaChecked
import GoSem.Claim
import GoSem.ClaimJoined
import GoSem.ClaimMapViews
import Derived.JoinedTies
import Derived.KernelRfl
namespace Go.Proofs.Ythifjndenhjobaa
/- THE CELL 'sum', in the pinned program and in every row, IS THE sha256 OF THE DUMP (.gsa) THAT YthifjndenhjobaaProg.lean LOADS. Nothing in Lean hashes anything: it is a label: what it is worth is what the hold of that sum in a sandbox is worth. -/
noncomputable def Try.pinned : Pinned := { name := "ythifjndenhjobaa", sum := "5b933d272ea476df51913fa73cb1e05f61f76344da839aa8bd8bf580a9c5a034", checked := Try.checked }
namespace Rows
def none {H : Type} : Left H := { results := [], args := [] }

/-- 'spinetlaw16.IfaceGoods': WHATEVER THE INPUT: true; the input reads as it did. -/
def ifaceGoodsSpec : ChangeSpec := { name := "ifaceGoods", fn := fun _ => fun
  | [d1, d2] => { results := [.lit (.bool true)], args := [d1, d2] }
  | _ => none }
def ifaceGoodsRow : OpenClaim := { program := "ythifjndenhjobaa", sum := "5b933d272ea476df51913fa73cb1e05f61f76344da839aa8bd8bf580a9c5a034", func := "spinet/spinetlaw16.IfaceGoods", spec := "ifaceGoods", unfollowed := true, recurses := true, plainKeys := false, apart := false }
def IfaceGoodsSaid : Prop := ifaceGoodsRow.holds Try.pinned (OpenSpec.ofChange ifaceGoodsSpec)

/-- ITS FALSE NEIGHBOUR: 'it returns false'. Refute it at one input. -/
def ifaceGoodsWrong : ChangeSpec := { name := "ifaceGoods", fn := fun _ => fun
  | [d1, d2] => { results := [.lit (.bool false)], args := [d1, d2] }
  | _ => none }
def IfaceGoodsWrongFalsely : Prop := ifaceGoodsRow.holds Try.pinned (OpenSpec.ofChange ifaceGoodsWrong)

/-- 'spinetlaw16.IfaceTrims': WHATEVER THE INPUT: true; the input reads as it did. -/
def ifaceTrimsSpec : ChangeSpec := { name := "ifaceTrims", fn := fun _ => fun
  | [d] => { results := [.lit (.bool true)], args := [d] }
  | _ => none }
def ifaceTrimsRow : OpenClaim := { program := "ythifjndenhjobaa", sum := "5b933d272ea476df51913fa73cb1e05f61f76344da839aa8bd8bf580a9c5a034", func := "spinet/spinetlaw16.IfaceTrims", spec := "ifaceTrims", unfollowed := true, recurses := true, plainKeys := false, apart := false }
def IfaceTrimsSaid : Prop := ifaceTrimsRow.holds Try.pinned (OpenSpec.ofChange ifaceTrimsSpec)

/-- ITS FALSE NEIGHBOUR: 'it returns false'. Refute it at one input. -/
def ifaceTrimsWrong : ChangeSpec := { name := "ifaceTrims", fn := fun _ => fun
  | [d] => { results := [.lit (.bool false)], args := [d] }
  | _ => none }
def IfaceTrimsWrongFalsely : Prop := ifaceTrimsRow.holds Try.pinned (OpenSpec.ofChange ifaceTrimsWrong)

/-- 'spinetlaw16.IfaceRoom': WHATEVER THE INPUT: true; the input reads as it did. -/
def ifaceRoomSpec : ChangeSpec := { name := "ifaceRoom", fn := fun _ => fun
  | [d1, d2] => { results := [.lit (.bool true)], args := [d1, d2] }
  | _ => none }
def ifaceRoomRow : OpenClaim := { program := "ythifjndenhjobaa", sum := "5b933d272ea476df51913fa73cb1e05f61f76344da839aa8bd8bf580a9c5a034", func := "spinet/spinetlaw16.IfaceRoom", spec := "ifaceRoom", unfollowed := true, recurses := true, plainKeys := false, apart := false }
def IfaceRoomSaid : Prop := ifaceRoomRow.holds Try.pinned (OpenSpec.ofChange ifaceRoomSpec)

/-- ITS FALSE NEIGHBOUR: 'it returns false'. Refute it at one input. -/
def ifaceRoomWrong : ChangeSpec := { name := "ifaceRoom", fn := fun _ => fun
  | [d1, d2] => { results := [.lit (.bool false)], args := [d1, d2] }
  | _ => none }
def IfaceRoomWrongFalsely : Prop := ifaceRoomRow.holds Try.pinned (OpenSpec.ofChange ifaceRoomWrong)

/-- 'spinetlaw16.IfaceFinds': WHATEVER THE INPUT: true; the input reads as it did. -/
def ifaceFindsSpec : ChangeSpec := { name := "ifaceFinds", fn := fun _ => fun
  | [d1, d2] => { results := [.lit (.bool true)], args := [d1, d2] }
  | _ => none }
def ifaceFindsRow : OpenClaim := { program := "ythifjndenhjobaa", sum := "5b933d272ea476df51913fa73cb1e05f61f76344da839aa8bd8bf580a9c5a034", func := "spinet/spinetlaw16.IfaceFinds", spec := "ifaceFinds", unfollowed := true, recurses := true, plainKeys := false, apart := false }
def IfaceFindsSaid : Prop := ifaceFindsRow.holds Try.pinned (OpenSpec.ofChange ifaceFindsSpec)

/-- ITS FALSE NEIGHBOUR: 'it returns false'. Refute it at one input. -/
def ifaceFindsWrong : ChangeSpec := { name := "ifaceFinds", fn := fun _ => fun
  | [d1, d2] => { results := [.lit (.bool false)], args := [d1, d2] }
  | _ => none }
def IfaceFindsWrongFalsely : Prop := ifaceFindsRow.holds Try.pinned (OpenSpec.ofChange ifaceFindsWrong)

/-- 'spinetlaw16.IfaceSames': WHATEVER THE INPUT: true; the input reads as it did. -/
def ifaceSamesSpec : ChangeSpec := { name := "ifaceSames", fn := fun _ => fun
  | [d1, d2] => { results := [.lit (.bool true)], args := [d1, d2] }
  | _ => none }
def ifaceSamesRow : OpenClaim := { program := "ythifjndenhjobaa", sum := "5b933d272ea476df51913fa73cb1e05f61f76344da839aa8bd8bf580a9c5a034", func := "spinet/spinetlaw16.IfaceSames", spec := "ifaceSames", unfollowed := true, recurses := true, plainKeys := false, apart := false }
def IfaceSamesSaid : Prop := ifaceSamesRow.holds Try.pinned (OpenSpec.ofChange ifaceSamesSpec)

/-- ITS FALSE NEIGHBOUR: 'it returns false'. Refute it at one input. -/
def ifaceSamesWrong : ChangeSpec := { name := "ifaceSames", fn := fun _ => fun
  | [d1, d2] => { results := [.lit (.bool false)], args := [d1, d2] }
  | _ => none }
def IfaceSamesWrongFalsely : Prop := ifaceSamesRow.holds Try.pinned (OpenSpec.ofChange ifaceSamesWrong)

/-- 'spinetlaw16.IfaceAgain': WHATEVER THE INPUT: true; the input reads as it did. -/
def ifaceAgainSpec : ChangeSpec := { name := "ifaceAgain", fn := fun _ => fun
  | [d] => { results := [.lit (.bool true)], args := [d] }
  | _ => none }
def ifaceAgainRow : OpenClaim := { program := "ythifjndenhjobaa", sum := "5b933d272ea476df51913fa73cb1e05f61f76344da839aa8bd8bf580a9c5a034", func := "spinet/spinetlaw16.IfaceAgain", spec := "ifaceAgain", unfollowed := true, recurses := true, plainKeys := false, apart := false }
def IfaceAgainSaid : Prop := ifaceAgainRow.holds Try.pinned (OpenSpec.ofChange ifaceAgainSpec)

/-- ITS FALSE NEIGHBOUR: 'it returns false'. Refute it at one input. -/
def ifaceAgainWrong : ChangeSpec := { name := "ifaceAgain", fn := fun _ => fun
  | [d] => { results := [.lit (.bool false)], args := [d] }
  | _ => none }
def IfaceAgainWrongFalsely : Prop := ifaceAgainRow.holds Try.pinned (OpenSpec.ofChange ifaceAgainWrong)

/-- 'spinetlaw17.SymfileWrites': WHATEVER THE INPUT: true; the input reads as it did. -/
def symfileWritesSpec : ChangeSpec := { name := "symfileWrites", fn := fun _ => fun
  | [d] => { results := [.lit (.bool true)], args := [d] }
  | _ => none }
def symfileWritesRow : OpenClaim := { program := "ythifjndenhjobaa", sum := "5b933d272ea476df51913fa73cb1e05f61f76344da839aa8bd8bf580a9c5a034", func := "spinet/spinetlaw17.SymfileWrites", spec := "symfileWrites", inPlace := ["internal/bytealg.IndexByteString"], unfollowed := true, recurses := true, plainKeys := false, apart := false }
def SymfileWritesSaid : Prop := symfileWritesRow.holds Try.pinned (OpenSpec.ofChange symfileWritesSpec)

/-- ITS FALSE NEIGHBOUR: 'it returns false'. Refute it at one input. -/
def symfileWritesWrong : ChangeSpec := { name := "symfileWrites", fn := fun _ => fun
  | [d] => { results := [.lit (.bool false)], args := [d] }
  | _ => none }
def SymfileWritesWrongFalsely : Prop := symfileWritesRow.holds Try.pinned (OpenSpec.ofChange symfileWritesWrong)

/-- 'spinetlaw17.SymfileApart': WHATEVER THE INPUT: true; the input reads as it did. -/
def symfileApartSpec : ChangeSpec := { name := "symfileApart", fn := fun _ => fun
  | [d1, d2] => { results := [.lit (.bool true)], args := [d1, d2] }
  | _ => none }
def symfileApartRow : OpenClaim := { program := "ythifjndenhjobaa", sum := "5b933d272ea476df51913fa73cb1e05f61f76344da839aa8bd8bf580a9c5a034", func := "spinet/spinetlaw17.SymfileApart", spec := "symfileApart", inPlace := ["internal/bytealg.IndexByteString"], unfollowed := true, recurses := true, plainKeys := false, apart := false }
def SymfileApartSaid : Prop := symfileApartRow.holds Try.pinned (OpenSpec.ofChange symfileApartSpec)

/-- ITS FALSE NEIGHBOUR: 'it returns false'. Refute it at one input. -/
def symfileApartWrong : ChangeSpec := { name := "symfileApart", fn := fun _ => fun
  | [d1, d2] => { results := [.lit (.bool false)], args := [d1, d2] }
  | _ => none }
def SymfileApartWrongFalsely : Prop := symfileApartRow.holds Try.pinned (OpenSpec.ofChange symfileApartWrong)

/-- 'spinetlaw17.SymfileBack': WHATEVER THE INPUT: true; the input reads as it did. -/
def symfileBackSpec : ChangeSpec := { name := "symfileBack", fn := fun _ => fun
  | [d1, d2] => { results := [.lit (.bool true)], args := [d1, d2] }
  | _ => none }
def symfileBackRow : OpenClaim := { program := "ythifjndenhjobaa", sum := "5b933d272ea476df51913fa73cb1e05f61f76344da839aa8bd8bf580a9c5a034", func := "spinet/spinetlaw17.SymfileBack", spec := "symfileBack", inPlace := ["internal/bytealg.IndexByteString"], unfollowed := true, recurses := true, plainKeys := false, apart := false }
def SymfileBackSaid : Prop := symfileBackRow.holds Try.pinned (OpenSpec.ofChange symfileBackSpec)

/-- ITS FALSE NEIGHBOUR: 'it returns false'. Refute it at one input. -/
def symfileBackWrong : ChangeSpec := { name := "symfileBack", fn := fun _ => fun
  | [d1, d2] => { results := [.lit (.bool false)], args := [d1, d2] }
  | _ => none }
def SymfileBackWrongFalsely : Prop := symfileBackRow.holds Try.pinned (OpenSpec.ofChange symfileBackWrong)

/-- 'spinetlaw17.SymfileCuts': WHATEVER THE INPUT: true; the input reads as it did. -/
def symfileCutsSpec : ChangeSpec := { name := "symfileCuts", fn := fun _ => fun
  | [d1, d2, d3] => { results := [.lit (.bool true)], args := [d1, d2, d3] }
  | _ => none }
def symfileCutsRow : OpenClaim := { program := "ythifjndenhjobaa", sum := "5b933d272ea476df51913fa73cb1e05f61f76344da839aa8bd8bf580a9c5a034", func := "spinet/spinetlaw17.SymfileCuts", spec := "symfileCuts", inPlace := ["internal/bytealg.IndexByteString"], unfollowed := true, recurses := true, plainKeys := false, apart := false }
def SymfileCutsSaid : Prop := symfileCutsRow.holds Try.pinned (OpenSpec.ofChange symfileCutsSpec)

/-- ITS FALSE NEIGHBOUR: 'it returns false'. Refute it at one input. -/
def symfileCutsWrong : ChangeSpec := { name := "symfileCuts", fn := fun _ => fun
  | [d1, d2, d3] => { results := [.lit (.bool false)], args := [d1, d2, d3] }
  | _ => none }
def SymfileCutsWrongFalsely : Prop := symfileCutsRow.holds Try.pinned (OpenSpec.ofChange symfileCutsWrong)

/-- 'spinetlaw17.SymfileKeys': WHATEVER THE INPUT: true; the input reads as it did. -/
def symfileKeysSpec : ChangeSpec := { name := "symfileKeys", fn := fun _ => fun
  | [d1, d2] => { results := [.lit (.bool true)], args := [d1, d2] }
  | _ => none }
def symfileKeysRow : OpenClaim := { program := "ythifjndenhjobaa", sum := "5b933d272ea476df51913fa73cb1e05f61f76344da839aa8bd8bf580a9c5a034", func := "spinet/spinetlaw17.SymfileKeys", spec := "symfileKeys", inPlace := ["internal/bytealg.IndexByteString"], unfollowed := true, recurses := true, plainKeys := false, apart := false }
def SymfileKeysSaid : Prop := symfileKeysRow.holds Try.pinned (OpenSpec.ofChange symfileKeysSpec)

/-- ITS FALSE NEIGHBOUR: 'it returns false'. Refute it at one input. -/
def symfileKeysWrong : ChangeSpec := { name := "symfileKeys", fn := fun _ => fun
  | [d1, d2] => { results := [.lit (.bool false)], args := [d1, d2] }
  | _ => none }
def SymfileKeysWrongFalsely : Prop := symfileKeysRow.holds Try.pinned (OpenSpec.ofChange symfileKeysWrong)

/- THE SECOND FORM. 'bulk': how many values and letters a reading holds, each counted each time it is reached (what is shared counts as often as it is met; a slice's spare places count too). A statement '..UptoSaid' is the law's where the arguments, and the package variables that the reading takes, are together of bulk at most 1048576: NARROWER than '..Said'. Prove '..Said' where nothing that the law and all that it calls make is longer than what came in: it says more and counts as full. Else prove '..UptoSaid'. A law counts once. -/
mutual
def uptoBulk {H : Type} : DataW H → Nat
  | .lit (.string bytes) => bytes.length + 1
  | .lit _ => 1
  | .nil => 1
  | .ptr d => uptoBulk d + 1
  | .slice elems spare => uptoBulkAll elems + uptoBulkAll spare + 1
  | .agg parts => uptoBulkAll parts + 1
  | .iface _ d => uptoBulk d + 1
  | .map entries => uptoBulkEntries entries + 1
  | .held _ => 1
def uptoBulkAll {H : Type} : List (DataW H) → Nat
  | [] => 0
  | d :: r => uptoBulk d + uptoBulkAll r
def uptoBulkEntries {H : Type} : List (Lit × DataW H) → Nat
  | [] => 0
  | x :: r => uptoBulkEntry x + uptoBulkEntries r
def uptoBulkEntry {H : Type} : Lit × DataW H → Nat
  | (.string bytes, d) => bytes.length + uptoBulk d + 1
  | (_, d) => uptoBulk d + 1
 end
def uptoSmall : (H : Type) → List (DataW H) → Bool := fun _ ds => decide (uptoBulkAll ds ≤ 1048576)
def OpenSpec.upto (s : _root_.Go.ChangeSpec) : _root_.Go.OpenSpec := { _root_.Go.OpenSpec.ofChange s with cond := some uptoSmall }

/-- 'spinetlaw16.IfaceGoods', WHERE WHAT IT READS IS OF BULK AT MOST 1048576: true; the input reads as it did. -/
def ifaceGoodsUptoRow : OpenClaim := { program := "ythifjndenhjobaa", sum := "5b933d272ea476df51913fa73cb1e05f61f76344da839aa8bd8bf580a9c5a034", func := "spinet/spinetlaw16.IfaceGoods", spec := "ifaceGoods", unfollowed := true, recurses := true, plainKeys := false, apart := false, narrowed := true }
def IfaceGoodsUptoSaid : Prop := ifaceGoodsUptoRow.holds Try.pinned (OpenSpec.upto ifaceGoodsSpec)

/-- 'spinetlaw16.IfaceTrims', WHERE WHAT IT READS IS OF BULK AT MOST 1048576: true; the input reads as it did. -/
def ifaceTrimsUptoRow : OpenClaim := { program := "ythifjndenhjobaa", sum := "5b933d272ea476df51913fa73cb1e05f61f76344da839aa8bd8bf580a9c5a034", func := "spinet/spinetlaw16.IfaceTrims", spec := "ifaceTrims", unfollowed := true, recurses := true, plainKeys := false, apart := false, narrowed := true }
def IfaceTrimsUptoSaid : Prop := ifaceTrimsUptoRow.holds Try.pinned (OpenSpec.upto ifaceTrimsSpec)

/-- 'spinetlaw16.IfaceRoom', WHERE WHAT IT READS IS OF BULK AT MOST 1048576: true; the input reads as it did. -/
def ifaceRoomUptoRow : OpenClaim := { program := "ythifjndenhjobaa", sum := "5b933d272ea476df51913fa73cb1e05f61f76344da839aa8bd8bf580a9c5a034", func := "spinet/spinetlaw16.IfaceRoom", spec := "ifaceRoom", unfollowed := true, recurses := true, plainKeys := false, apart := false, narrowed := true }
def IfaceRoomUptoSaid : Prop := ifaceRoomUptoRow.holds Try.pinned (OpenSpec.upto ifaceRoomSpec)

/-- 'spinetlaw16.IfaceFinds', WHERE WHAT IT READS IS OF BULK AT MOST 1048576: true; the input reads as it did. -/
def ifaceFindsUptoRow : OpenClaim := { program := "ythifjndenhjobaa", sum := "5b933d272ea476df51913fa73cb1e05f61f76344da839aa8bd8bf580a9c5a034", func := "spinet/spinetlaw16.IfaceFinds", spec := "ifaceFinds", unfollowed := true, recurses := true, plainKeys := false, apart := false, narrowed := true }
def IfaceFindsUptoSaid : Prop := ifaceFindsUptoRow.holds Try.pinned (OpenSpec.upto ifaceFindsSpec)

/-- 'spinetlaw16.IfaceSames', WHERE WHAT IT READS IS OF BULK AT MOST 1048576: true; the input reads as it did. -/
def ifaceSamesUptoRow : OpenClaim := { program := "ythifjndenhjobaa", sum := "5b933d272ea476df51913fa73cb1e05f61f76344da839aa8bd8bf580a9c5a034", func := "spinet/spinetlaw16.IfaceSames", spec := "ifaceSames", unfollowed := true, recurses := true, plainKeys := false, apart := false, narrowed := true }
def IfaceSamesUptoSaid : Prop := ifaceSamesUptoRow.holds Try.pinned (OpenSpec.upto ifaceSamesSpec)

/-- 'spinetlaw16.IfaceAgain', WHERE WHAT IT READS IS OF BULK AT MOST 1048576: true; the input reads as it did. -/
def ifaceAgainUptoRow : OpenClaim := { program := "ythifjndenhjobaa", sum := "5b933d272ea476df51913fa73cb1e05f61f76344da839aa8bd8bf580a9c5a034", func := "spinet/spinetlaw16.IfaceAgain", spec := "ifaceAgain", unfollowed := true, recurses := true, plainKeys := false, apart := false, narrowed := true }
def IfaceAgainUptoSaid : Prop := ifaceAgainUptoRow.holds Try.pinned (OpenSpec.upto ifaceAgainSpec)

/-- 'spinetlaw17.SymfileWrites', WHERE WHAT IT READS IS OF BULK AT MOST 1048576: true; the input reads as it did. -/
def symfileWritesUptoRow : OpenClaim := { program := "ythifjndenhjobaa", sum := "5b933d272ea476df51913fa73cb1e05f61f76344da839aa8bd8bf580a9c5a034", func := "spinet/spinetlaw17.SymfileWrites", spec := "symfileWrites", inPlace := ["internal/bytealg.IndexByteString"], unfollowed := true, recurses := true, plainKeys := false, apart := false, narrowed := true }
def SymfileWritesUptoSaid : Prop := symfileWritesUptoRow.holds Try.pinned (OpenSpec.upto symfileWritesSpec)

/-- 'spinetlaw17.SymfileApart', WHERE WHAT IT READS IS OF BULK AT MOST 1048576: true; the input reads as it did. -/
def symfileApartUptoRow : OpenClaim := { program := "ythifjndenhjobaa", sum := "5b933d272ea476df51913fa73cb1e05f61f76344da839aa8bd8bf580a9c5a034", func := "spinet/spinetlaw17.SymfileApart", spec := "symfileApart", inPlace := ["internal/bytealg.IndexByteString"], unfollowed := true, recurses := true, plainKeys := false, apart := false, narrowed := true }
def SymfileApartUptoSaid : Prop := symfileApartUptoRow.holds Try.pinned (OpenSpec.upto symfileApartSpec)

/-- 'spinetlaw17.SymfileBack', WHERE WHAT IT READS IS OF BULK AT MOST 1048576: true; the input reads as it did. -/
def symfileBackUptoRow : OpenClaim := { program := "ythifjndenhjobaa", sum := "5b933d272ea476df51913fa73cb1e05f61f76344da839aa8bd8bf580a9c5a034", func := "spinet/spinetlaw17.SymfileBack", spec := "symfileBack", inPlace := ["internal/bytealg.IndexByteString"], unfollowed := true, recurses := true, plainKeys := false, apart := false, narrowed := true }
def SymfileBackUptoSaid : Prop := symfileBackUptoRow.holds Try.pinned (OpenSpec.upto symfileBackSpec)

/-- 'spinetlaw17.SymfileCuts', WHERE WHAT IT READS IS OF BULK AT MOST 1048576: true; the input reads as it did. -/
def symfileCutsUptoRow : OpenClaim := { program := "ythifjndenhjobaa", sum := "5b933d272ea476df51913fa73cb1e05f61f76344da839aa8bd8bf580a9c5a034", func := "spinet/spinetlaw17.SymfileCuts", spec := "symfileCuts", inPlace := ["internal/bytealg.IndexByteString"], unfollowed := true, recurses := true, plainKeys := false, apart := false, narrowed := true }
def SymfileCutsUptoSaid : Prop := symfileCutsUptoRow.holds Try.pinned (OpenSpec.upto symfileCutsSpec)

/-- 'spinetlaw17.SymfileKeys', WHERE WHAT IT READS IS OF BULK AT MOST 1048576: true; the input reads as it did. -/
def symfileKeysUptoRow : OpenClaim := { program := "ythifjndenhjobaa", sum := "5b933d272ea476df51913fa73cb1e05f61f76344da839aa8bd8bf580a9c5a034", func := "spinet/spinetlaw17.SymfileKeys", spec := "symfileKeys", inPlace := ["internal/bytealg.IndexByteString"], unfollowed := true, recurses := true, plainKeys := false, apart := false, narrowed := true }
def SymfileKeysUptoSaid : Prop := symfileKeysUptoRow.holds Try.pinned (OpenSpec.upto symfileKeysSpec)

end Rows
end Go.Proofs.Ythifjndenhjobaa
