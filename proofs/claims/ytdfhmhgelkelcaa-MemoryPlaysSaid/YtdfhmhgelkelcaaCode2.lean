/- The functions' code in the small language. Printed by program (wip/tools). -/
import Derived.Test.YtdfhmhgelkelcaaWalk2
import Derived.Test.YtdfhmhgelkelcaaProg
import Derived.KernelRfl
namespace Go.Proofs.Ytdfhmhgelkelcaa
open Go.RowKit
def hhg : Nat → Nat → Option Md := fun fn slot => if (fn, slot) ∈ [(26, 5), (26, 7)] then some .gr else none

/-- slices.Clone[[]uint32,uint32] -/
def c26g : AC :=
  .seq (.reg [⟨(some 2), .mv (.c .esl), none⟩])
  (.seq (.seq (.reg [⟨(some 3), .mv (.t 0), none⟩,
       ⟨(some 4), .isn false false (.t 3), none⟩])
   (.cond (.t 4) (.seq (.reg [⟨(some 2), .mv (.c .esl), none⟩])
    (.ret)) (.skip)))
  (.seq (.reg [⟨(some 5), .bs .gr 23 1 [], none⟩,
      ⟨(some 6), .mv (.t 0), none⟩,
      ⟨(some 7), .app .gr 23 1 4 (.t 5) (.t 6), none⟩,
      ⟨(some 2), .mv (.t 7), none⟩])
  (.ret)))
def r26g : List RC := [.t 2]

theorem cc26g : Try.f26.body.bind (comp Try.prog (hhg 26)) = some c26g := by kernel_rfl
theorem rr26g : resC Try.prog Try.f26 = some r26g := by kernel_rfl
end Go.Proofs.Ytdfhmhgelkelcaa
