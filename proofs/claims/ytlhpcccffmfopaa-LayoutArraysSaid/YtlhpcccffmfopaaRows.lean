/-
  No cell of these rows narrows 'for every input' (looked for: loops, veiled, ifaces, maps, wideKeys, modest, calm, conditions, laid).
  DERIVED. THE GIVEN ROWS OF THIS SEAT. 9 by the template 'for every input the law returns true; each argument reads behind the call as it read before'; 0 by the template 'total and deterministic' (their statements: YtlhpcccffmfopaaTotals.lean).
  GIVEN WITH THE SEED: the statements are not yours to turn. If you find one false, say at which input.
  Laid BY PROGRAM, IN A SANDBOX (cutbox-rows.mjs): the forced cells as the released guide's own fill.sh prints them over the translation 9456bde70f8b5311… (all of the seat's roots in one cut). By AI agents, Wed Nov 11 2026. No macro, syntax, notation, axiom, sorry.
-/
import Derived.Test.YtlhpcccffmfopaaChecked
import GoSem.Claim
import GoSem.ClaimJoined
import GoSem.ClaimMapViews
import Derived.JoinedTies
import Derived.KernelRfl
namespace Go.Proofs.Ytlhpcccffmfopaa
/- THE CELL 'sum', in the pinned program and in every row, IS THE sha256 OF THE DUMP (.gsa) THAT YtlhpcccffmfopaaProg.lean LOADS. Nothing in Lean hashes anything: it is a label: what it is worth is what the hold of that sum in a sandbox is worth. -/
noncomputable def Try.pinned : Pinned := { name := "ytlhpcccffmfopaa", sum := "9456bde70f8b5311b5c500d53e5d06ee684f532b06a5858f5815e3387826a760", checked := Try.checked }
namespace Rows
def none {H : Type} : Left H := { results := [], args := [] }

/-- 'spinetlaw13.TypesGoods': WHATEVER THE INPUT: true; the input reads as it did. -/
def typesGoodsSpec : ChangeSpec := { name := "typesGoods", fn := fun _ => fun
  | [d] => { results := [.lit (.bool true)], args := [d] }
  | _ => none }
def typesGoodsRow : OpenClaim := { program := "ytlhpcccffmfopaa", sum := "9456bde70f8b5311b5c500d53e5d06ee684f532b06a5858f5815e3387826a760", func := "spinet/spinetlaw13.TypesGoods", spec := "typesGoods", unfollowed := true, recurses := true, plainKeys := false, apart := false }
def TypesGoodsSaid : Prop := typesGoodsRow.holds Try.pinned (OpenSpec.ofChange typesGoodsSpec)

/-- ITS FALSE NEIGHBOUR: 'it returns false'. Refute it at one input. -/
def typesGoodsWrong : ChangeSpec := { name := "typesGoods", fn := fun _ => fun
  | [d] => { results := [.lit (.bool false)], args := [d] }
  | _ => none }
def TypesGoodsWrongFalsely : Prop := typesGoodsRow.holds Try.pinned (OpenSpec.ofChange typesGoodsWrong)

/-- 'spinetlaw13.TypesOrder': WHATEVER THE INPUT: true; the input reads as it did. -/
def typesOrderSpec : ChangeSpec := { name := "typesOrder", fn := fun _ => fun
  | [d1, d2, d3] => { results := [.lit (.bool true)], args := [d1, d2, d3] }
  | _ => none }
def typesOrderRow : OpenClaim := { program := "ytlhpcccffmfopaa", sum := "9456bde70f8b5311b5c500d53e5d06ee684f532b06a5858f5815e3387826a760", func := "spinet/spinetlaw13.TypesOrder", spec := "typesOrder", unfollowed := true, recurses := true, plainKeys := false, apart := false }
def TypesOrderSaid : Prop := typesOrderRow.holds Try.pinned (OpenSpec.ofChange typesOrderSpec)

/-- ITS FALSE NEIGHBOUR: 'it returns false'. Refute it at one input. -/
def typesOrderWrong : ChangeSpec := { name := "typesOrder", fn := fun _ => fun
  | [d1, d2, d3] => { results := [.lit (.bool false)], args := [d1, d2, d3] }
  | _ => none }
def TypesOrderWrongFalsely : Prop := typesOrderRow.holds Try.pinned (OpenSpec.ofChange typesOrderWrong)

/-- 'spinetlaw13.TypesOpen': WHATEVER THE INPUT: true; the input reads as it did. -/
def typesOpenSpec : ChangeSpec := { name := "typesOpen", fn := fun _ => fun
  | [d1, d2, d3] => { results := [.lit (.bool true)], args := [d1, d2, d3] }
  | _ => none }
def typesOpenRow : OpenClaim := { program := "ytlhpcccffmfopaa", sum := "9456bde70f8b5311b5c500d53e5d06ee684f532b06a5858f5815e3387826a760", func := "spinet/spinetlaw13.TypesOpen", spec := "typesOpen", unfollowed := true, recurses := true, plainKeys := false, apart := false }
def TypesOpenSaid : Prop := typesOpenRow.holds Try.pinned (OpenSpec.ofChange typesOpenSpec)

/-- ITS FALSE NEIGHBOUR: 'it returns false'. Refute it at one input. -/
def typesOpenWrong : ChangeSpec := { name := "typesOpen", fn := fun _ => fun
  | [d1, d2, d3] => { results := [.lit (.bool false)], args := [d1, d2, d3] }
  | _ => none }
def TypesOpenWrongFalsely : Prop := typesOpenRow.holds Try.pinned (OpenSpec.ofChange typesOpenWrong)

/-- 'spinetlaw13.TypesRoom': WHATEVER THE INPUT: true; the input reads as it did. -/
def typesRoomSpec : ChangeSpec := { name := "typesRoom", fn := fun _ => fun
  | [d1, d2, d3] => { results := [.lit (.bool true)], args := [d1, d2, d3] }
  | _ => none }
def typesRoomRow : OpenClaim := { program := "ytlhpcccffmfopaa", sum := "9456bde70f8b5311b5c500d53e5d06ee684f532b06a5858f5815e3387826a760", func := "spinet/spinetlaw13.TypesRoom", spec := "typesRoom", unfollowed := true, recurses := true, plainKeys := false, apart := false }
def TypesRoomSaid : Prop := typesRoomRow.holds Try.pinned (OpenSpec.ofChange typesRoomSpec)

/-- ITS FALSE NEIGHBOUR: 'it returns false'. Refute it at one input. -/
def typesRoomWrong : ChangeSpec := { name := "typesRoom", fn := fun _ => fun
  | [d1, d2, d3] => { results := [.lit (.bool false)], args := [d1, d2, d3] }
  | _ => none }
def TypesRoomWrongFalsely : Prop := typesRoomRow.holds Try.pinned (OpenSpec.ofChange typesRoomWrong)

/-- 'spinetlaw14.LayoutSizes': WHATEVER THE INPUT: true; the input reads as it did. -/
def layoutSizesSpec : ChangeSpec := { name := "layoutSizes", fn := fun _ => fun
  | [d1, d2] => { results := [.lit (.bool true)], args := [d1, d2] }
  | _ => none }
def layoutSizesRow : OpenClaim := { program := "ytlhpcccffmfopaa", sum := "9456bde70f8b5311b5c500d53e5d06ee684f532b06a5858f5815e3387826a760", func := "spinet/spinetlaw14.LayoutSizes", spec := "layoutSizes", unfollowed := true, recurses := true, plainKeys := false, apart := false }
def LayoutSizesSaid : Prop := layoutSizesRow.holds Try.pinned (OpenSpec.ofChange layoutSizesSpec)

/-- ITS FALSE NEIGHBOUR: 'it returns false'. Refute it at one input. -/
def layoutSizesWrong : ChangeSpec := { name := "layoutSizes", fn := fun _ => fun
  | [d1, d2] => { results := [.lit (.bool false)], args := [d1, d2] }
  | _ => none }
def LayoutSizesWrongFalsely : Prop := layoutSizesRow.holds Try.pinned (OpenSpec.ofChange layoutSizesWrong)

/-- 'spinetlaw14.LayoutFields': WHATEVER THE INPUT: true; the input reads as it did. -/
def layoutFieldsSpec : ChangeSpec := { name := "layoutFields", fn := fun _ => fun
  | [d1, d2, d3] => { results := [.lit (.bool true)], args := [d1, d2, d3] }
  | _ => none }
def layoutFieldsRow : OpenClaim := { program := "ytlhpcccffmfopaa", sum := "9456bde70f8b5311b5c500d53e5d06ee684f532b06a5858f5815e3387826a760", func := "spinet/spinetlaw14.LayoutFields", spec := "layoutFields", unfollowed := true, recurses := true, plainKeys := false, apart := false }
def LayoutFieldsSaid : Prop := layoutFieldsRow.holds Try.pinned (OpenSpec.ofChange layoutFieldsSpec)

/-- ITS FALSE NEIGHBOUR: 'it returns false'. Refute it at one input. -/
def layoutFieldsWrong : ChangeSpec := { name := "layoutFields", fn := fun _ => fun
  | [d1, d2, d3] => { results := [.lit (.bool false)], args := [d1, d2, d3] }
  | _ => none }
def LayoutFieldsWrongFalsely : Prop := layoutFieldsRow.holds Try.pinned (OpenSpec.ofChange layoutFieldsWrong)

/-- 'spinetlaw14.LayoutVars': WHATEVER THE INPUT: true; the input reads as it did. -/
def layoutVarsSpec : ChangeSpec := { name := "layoutVars", fn := fun _ => fun
  | [d1, d2] => { results := [.lit (.bool true)], args := [d1, d2] }
  | _ => none }
def layoutVarsRow : OpenClaim := { program := "ytlhpcccffmfopaa", sum := "9456bde70f8b5311b5c500d53e5d06ee684f532b06a5858f5815e3387826a760", func := "spinet/spinetlaw14.LayoutVars", spec := "layoutVars", unfollowed := true, recurses := true, plainKeys := false, apart := false }
def LayoutVarsSaid : Prop := layoutVarsRow.holds Try.pinned (OpenSpec.ofChange layoutVarsSpec)

/-- ITS FALSE NEIGHBOUR: 'it returns false'. Refute it at one input. -/
def layoutVarsWrong : ChangeSpec := { name := "layoutVars", fn := fun _ => fun
  | [d1, d2] => { results := [.lit (.bool false)], args := [d1, d2] }
  | _ => none }
def LayoutVarsWrongFalsely : Prop := layoutVarsRow.holds Try.pinned (OpenSpec.ofChange layoutVarsWrong)

/-- 'spinetlaw14.LayoutApart': WHATEVER THE INPUT: true; the input reads as it did. -/
def layoutApartSpec : ChangeSpec := { name := "layoutApart", fn := fun _ => fun
  | [d1, d2] => { results := [.lit (.bool true)], args := [d1, d2] }
  | _ => none }
def layoutApartRow : OpenClaim := { program := "ytlhpcccffmfopaa", sum := "9456bde70f8b5311b5c500d53e5d06ee684f532b06a5858f5815e3387826a760", func := "spinet/spinetlaw14.LayoutApart", spec := "layoutApart", unfollowed := true, recurses := true, plainKeys := false, apart := false }
def LayoutApartSaid : Prop := layoutApartRow.holds Try.pinned (OpenSpec.ofChange layoutApartSpec)

/-- ITS FALSE NEIGHBOUR: 'it returns false'. Refute it at one input. -/
def layoutApartWrong : ChangeSpec := { name := "layoutApart", fn := fun _ => fun
  | [d1, d2] => { results := [.lit (.bool false)], args := [d1, d2] }
  | _ => none }
def LayoutApartWrongFalsely : Prop := layoutApartRow.holds Try.pinned (OpenSpec.ofChange layoutApartWrong)

/-- 'spinetlaw14.LayoutArrays': WHATEVER THE INPUT: true; the input reads as it did. -/
def layoutArraysSpec : ChangeSpec := { name := "layoutArrays", fn := fun _ => fun
  | [d1, d2, d3] => { results := [.lit (.bool true)], args := [d1, d2, d3] }
  | _ => none }
def layoutArraysRow : OpenClaim := { program := "ytlhpcccffmfopaa", sum := "9456bde70f8b5311b5c500d53e5d06ee684f532b06a5858f5815e3387826a760", func := "spinet/spinetlaw14.LayoutArrays", spec := "layoutArrays", unfollowed := true, recurses := true, plainKeys := false, apart := false }
def LayoutArraysSaid : Prop := layoutArraysRow.holds Try.pinned (OpenSpec.ofChange layoutArraysSpec)

/-- ITS FALSE NEIGHBOUR: 'it returns false'. Refute it at one input. -/
def layoutArraysWrong : ChangeSpec := { name := "layoutArrays", fn := fun _ => fun
  | [d1, d2, d3] => { results := [.lit (.bool false)], args := [d1, d2, d3] }
  | _ => none }
def LayoutArraysWrongFalsely : Prop := layoutArraysRow.holds Try.pinned (OpenSpec.ofChange layoutArraysWrong)

/- THE SECOND FORM. 'bulk': how many values and letters a reading holds, each counted each time it is reached (what is shared counts as often as it is met; a slice's spare places count too). A statement '..UptoSaid' is the law's where the arguments, and the package variables that the reading takes, are together of bulk at most 1048576: NARROWER than '..Said'. Prove '..Said' where nothing that the law and all that it calls make is longer than what came in: it says more and counts as full. Else prove '..UptoSaid'. A law counts once. -/
mutual
def uptoBulk {H : Type} : DataW H → Nat
  | .lit (.string bytes) => bytes.length + 1
  | .lit _ => 1
  | .nil => 1
  | .ptr d => uptoBulk d + 1
  | .slice elems spare => uptoBulkAll elems + uptoBulkAll spare + 1
  | .agg parts => uptoBulkAll parts + 1
  | .iface _ d => uptoBulk d + 1
  | .map entries => uptoBulkEntries entries + 1
  | .held _ => 1
def uptoBulkAll {H : Type} : List (DataW H) → Nat
  | [] => 0
  | d :: r => uptoBulk d + uptoBulkAll r
def uptoBulkEntries {H : Type} : List (Lit × DataW H) → Nat
  | [] => 0
  | x :: r => uptoBulkEntry x + uptoBulkEntries r
def uptoBulkEntry {H : Type} : Lit × DataW H → Nat
  | (.string bytes, d) => bytes.length + uptoBulk d + 1
  | (_, d) => uptoBulk d + 1
 end
def uptoSmall : (H : Type) → List (DataW H) → Bool := fun _ ds => decide (uptoBulkAll ds ≤ 1048576)
def OpenSpec.upto (s : _root_.Go.ChangeSpec) : _root_.Go.OpenSpec := { _root_.Go.OpenSpec.ofChange s with cond := some uptoSmall }

/-- 'spinetlaw13.TypesGoods', WHERE WHAT IT READS IS OF BULK AT MOST 1048576: true; the input reads as it did. -/
def typesGoodsUptoRow : OpenClaim := { program := "ytlhpcccffmfopaa", sum := "9456bde70f8b5311b5c500d53e5d06ee684f532b06a5858f5815e3387826a760", func := "spinet/spinetlaw13.TypesGoods", spec := "typesGoods", unfollowed := true, recurses := true, plainKeys := false, apart := false, narrowed := true }
def TypesGoodsUptoSaid : Prop := typesGoodsUptoRow.holds Try.pinned (OpenSpec.upto typesGoodsSpec)

/-- 'spinetlaw13.TypesOrder', WHERE WHAT IT READS IS OF BULK AT MOST 1048576: true; the input reads as it did. -/
def typesOrderUptoRow : OpenClaim := { program := "ytlhpcccffmfopaa", sum := "9456bde70f8b5311b5c500d53e5d06ee684f532b06a5858f5815e3387826a760", func := "spinet/spinetlaw13.TypesOrder", spec := "typesOrder", unfollowed := true, recurses := true, plainKeys := false, apart := false, narrowed := true }
def TypesOrderUptoSaid : Prop := typesOrderUptoRow.holds Try.pinned (OpenSpec.upto typesOrderSpec)

/-- 'spinetlaw13.TypesOpen', WHERE WHAT IT READS IS OF BULK AT MOST 1048576: true; the input reads as it did. -/
def typesOpenUptoRow : OpenClaim := { program := "ytlhpcccffmfopaa", sum := "9456bde70f8b5311b5c500d53e5d06ee684f532b06a5858f5815e3387826a760", func := "spinet/spinetlaw13.TypesOpen", spec := "typesOpen", unfollowed := true, recurses := true, plainKeys := false, apart := false, narrowed := true }
def TypesOpenUptoSaid : Prop := typesOpenUptoRow.holds Try.pinned (OpenSpec.upto typesOpenSpec)

/-- 'spinetlaw13.TypesRoom', WHERE WHAT IT READS IS OF BULK AT MOST 1048576: true; the input reads as it did. -/
def typesRoomUptoRow : OpenClaim := { program := "ytlhpcccffmfopaa", sum := "9456bde70f8b5311b5c500d53e5d06ee684f532b06a5858f5815e3387826a760", func := "spinet/spinetlaw13.TypesRoom", spec := "typesRoom", unfollowed := true, recurses := true, plainKeys := false, apart := false, narrowed := true }
def TypesRoomUptoSaid : Prop := typesRoomUptoRow.holds Try.pinned (OpenSpec.upto typesRoomSpec)

/-- 'spinetlaw14.LayoutSizes', WHERE WHAT IT READS IS OF BULK AT MOST 1048576: true; the input reads as it did. -/
def layoutSizesUptoRow : OpenClaim := { program := "ytlhpcccffmfopaa", sum := "9456bde70f8b5311b5c500d53e5d06ee684f532b06a5858f5815e3387826a760", func := "spinet/spinetlaw14.LayoutSizes", spec := "layoutSizes", unfollowed := true, recurses := true, plainKeys := false, apart := false, narrowed := true }
def LayoutSizesUptoSaid : Prop := layoutSizesUptoRow.holds Try.pinned (OpenSpec.upto layoutSizesSpec)

/-- 'spinetlaw14.LayoutFields', WHERE WHAT IT READS IS OF BULK AT MOST 1048576: true; the input reads as it did. -/
def layoutFieldsUptoRow : OpenClaim := { program := "ytlhpcccffmfopaa", sum := "9456bde70f8b5311b5c500d53e5d06ee684f532b06a5858f5815e3387826a760", func := "spinet/spinetlaw14.LayoutFields", spec := "layoutFields", unfollowed := true, recurses := true, plainKeys := false, apart := false, narrowed := true }
def LayoutFieldsUptoSaid : Prop := layoutFieldsUptoRow.holds Try.pinned (OpenSpec.upto layoutFieldsSpec)

/-- 'spinetlaw14.LayoutVars', WHERE WHAT IT READS IS OF BULK AT MOST 1048576: true; the input reads as it did. -/
def layoutVarsUptoRow : OpenClaim := { program := "ytlhpcccffmfopaa", sum := "9456bde70f8b5311b5c500d53e5d06ee684f532b06a5858f5815e3387826a760", func := "spinet/spinetlaw14.LayoutVars", spec := "layoutVars", unfollowed := true, recurses := true, plainKeys := false, apart := false, narrowed := true }
def LayoutVarsUptoSaid : Prop := layoutVarsUptoRow.holds Try.pinned (OpenSpec.upto layoutVarsSpec)

/-- 'spinetlaw14.LayoutApart', WHERE WHAT IT READS IS OF BULK AT MOST 1048576: true; the input reads as it did. -/
def layoutApartUptoRow : OpenClaim := { program := "ytlhpcccffmfopaa", sum := "9456bde70f8b5311b5c500d53e5d06ee684f532b06a5858f5815e3387826a760", func := "spinet/spinetlaw14.LayoutApart", spec := "layoutApart", unfollowed := true, recurses := true, plainKeys := false, apart := false, narrowed := true }
def LayoutApartUptoSaid : Prop := layoutApartUptoRow.holds Try.pinned (OpenSpec.upto layoutApartSpec)

/-- 'spinetlaw14.LayoutArrays', WHERE WHAT IT READS IS OF BULK AT MOST 1048576: true; the input reads as it did. -/
def layoutArraysUptoRow : OpenClaim := { program := "ytlhpcccffmfopaa", sum := "9456bde70f8b5311b5c500d53e5d06ee684f532b06a5858f5815e3387826a760", func := "spinet/spinetlaw14.LayoutArrays", spec := "layoutArrays", unfollowed := true, recurses := true, plainKeys := false, apart := false, narrowed := true }
def LayoutArraysUptoSaid : Prop := layoutArraysUptoRow.holds Try.pinned (OpenSpec.upto layoutArraysSpec)

end Rows
end Go.Proofs.Ytlhpcccffmfopaa
