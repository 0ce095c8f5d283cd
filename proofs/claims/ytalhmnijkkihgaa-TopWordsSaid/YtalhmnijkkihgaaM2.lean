/- A new memory. -/
import Derived.Test.YtalhmnijkkihgaaM1
namespace Go.Proofs.Ytalhmnijkkihgaa
set_option linter.unusedSectionVars false
set_option linter.unusedSimpArgs false
set_option linter.unusedVariables false
set_option maxRecDepth 20000
set_option maxHeartbeats 4000000
open Go.RowKit

abbrev ud (n : Int) : List Dat := [.v (.int .u32 n)]
theorem flat_ud (ws : List Int) : ((ws.map ud).flatten.map AV.d) = ws.map wv := by
  induction ws with
  | nil => rfl
  | cons w ws ih => simp only [List.map_cons, List.flatten_cons, List.map_append, ih]; rfl
theorem all1_ud (ws : List Int) : ((ws.map ud).all fun e => e.length == 1) = true := by simp
theorem flen_ud (ws : List Int) : (ws.map ud).flatten.length = ws.length := by
  induction ws with
  | nil => rfl
  | cons w ws ih => simp only [List.map_cons, List.flatten_cons, List.length_append, ih, List.length_cons, List.length_nil]; omega
theorem rep1 (n : Nat) (x : AV) : (List.replicate n [x]).flatten = List.replicate n x := List.flatten_replicate_singleton
theorem drop_rep (n : Nat) (x : AV) : List.drop n (List.replicate n x) = [] := by simp
abbrev memB (H : List ABlk) (ws : List Int) : List ABlk := [.cells (ws.map wv), .cells [.hsl H.length 0 ws.length ws.length 1]]
theorem new_c {ws : List Int} (hl : ws.length ≤ 65536) (H : List ABlk) : ACalls Try.prog 12 [.d (.sl (ws.map ud))] H fun v H' => v = .tup [.ptr (H.length + 1) 0, iv 0] ∧ H' = H ++ memB H ws := by
  refine ACalls.into Try.func12 cc12 rr12 fun hcl => ?_
  have he : ∀ l, elemsA (H ++ l) 1 (.d (.sl (ws.map ud))) = some ((ws.map ud).map (·.map .d)) := fun l => by simp [elemsA]
  have hdd := datss_map_d (ws.map ud)
  simp (maxSteps := 2000000) (disch := omega) only [Try.ntmps12, c12, r12, he, hdd, List.length_map, all1_ud, flat_ud, flen_ud, rep1, drop_rep, List.length_replicate, go_sem, eq_self, if_true, if_false, reduceCtorEq, Int.reduceToNat, Int.reducePow, Nat.reducePow, Nat.reduceMul, Int.reduceLT, Int.reduceLE, Nat.reduceAdd, Nat.reduceLeDiff, Nat.reduceBEq, Nat.reduceSub, Int.reduceSub, Int.reduceMul, Int.reduceNeg, Int.reduceAdd]
  exact Ret.keep ⟨rfl, rfl⟩
end Go.Proofs.Ytalhmnijkkihgaa
