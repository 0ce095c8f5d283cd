/-
  DERIVED. GIVEN WITH THE SEED: THE CARDS: each row of YtofpekbidngnfaaGreatDoorRows.lean that lists a variable, with what it lists TIED to the program's text (the seventh form; the later family's looks); each row that meets fmt, with fmt's text TOLD by the authors' own Lean function (tested against real Go, not proved from fmt's source: count such statements apart). THE CARD IS WHAT COUNTS. Prove the row's statement (the work); the ties are given (YtofpekbidngnfaaGreatDoorTie.lean); close each card by the builder's one call (the guide's Derived/Test/ToyasCard.lean, 'card_holds'). Laid BY PROGRAM, IN A SANDBOX (cutbox-door.mjs). By AI agents, Wed Nov 11 2026. No macro, syntax, notation, axiom, sorry.
-/
import Derived.Test.YtofpekbidngnfaaGreatDoorRows
import GoSem.ClaimSeven
namespace Go.Proofs.YtofpekbidngnfaaGreatDoor
namespace Rows

/-- THE TIED CARD OF 'spinettop.TopCases'. -/
def topCasesCard : Claim7 := { stood := { row := topCasesRow, standIns := [], harness := (true, "daef6b506499196aeef5bd0371a94cc9c0994dd91e70a666bf5296e96e17a174"), looks := true }, kinds := [], alts := [], laidByText := true, laidKinds := [.data, .listed, .sentinel, .sentinel, .data, .data, .data, .pinned, .data, .pinned], laidTests := true, laidLooks := .later }
def TopCasesCardSaid : Prop := Claim7.holds Tryz.pinned (.plain (OpenSpec.ofChange topCasesSpec)) topCasesCard

/-- THE SECOND FORM's CARD OF 'spinettop.TopCases'. -/
def topCasesUptoCard : Claim7 := { stood := { row := topCasesUptoRow, standIns := [], harness := (true, "daef6b506499196aeef5bd0371a94cc9c0994dd91e70a666bf5296e96e17a174"), looks := true }, kinds := [], alts := [], laidByText := true, laidKinds := [.data, .listed, .sentinel, .sentinel, .data, .data, .data, .pinned, .data, .pinned], laidTests := true, laidLooks := .later }
def TopCasesUptoCardSaid : Prop := Claim7.holds Tryz.pinned (.plain (OpenSpec.upto topCasesSpec)) topCasesUptoCard
end Rows
end Go.Proofs.YtofpekbidngnfaaGreatDoor
