/- Passes of Run: a pick below nought; none left. -/
import Derived.Test.YtbmdocjeepnhmaaGreatDoorEvTb
set_option linter.unusedVariables false
set_option linter.unusedSimpArgs false
set_option linter.unusedSectionVars false
namespace Go.Ev
open Go Go.RowKit Go.Proofs
set_option maxRecDepth 1000000
theorem pass_neg : chkR .normal [] gNo oNo sR (passOf (KP (tabI1 true) []) 3000 17 (false :: false :: way17) sR) = true := by kernel_rfl
theorem pass_end : chkR (.exit 0) [] ((23, .y 23) :: gNo.filter fun p => !(Nat.beq p.1 23)) oNo sR (passOf (KP0 (tabI0 false)) 3000 17 (false :: false :: way17) sR) = true := by kernel_rfl
end Go.Ev
