/- wakesCpu, by evaluation. -/
import Derived.Test.YtalhmnijkkihgaaEnv
namespace Go.Proofs.Ytalhmnijkkihgaa
set_option linter.unusedSectionVars false
set_option linter.unusedSimpArgs false
set_option linter.unusedVariables false
set_option maxRecDepth 100000
open Go.RowKit

theorem wakes_c (H : List ABlk) : ACalls Try.prog 4 [] H fun v H' => v = .d (.v (.bool true)) ∧ H' = H := env_ok.tells 20 (by kernel_rfl) H
end Go.Proofs.Ytalhmnijkkihgaa
