/- A pass of Run: connection 3 has a line. -/
import Derived.Test.YtbmdocjeepnhmaaGreatDoorEvTb
set_option linter.unusedVariables false
set_option linter.unusedSimpArgs false
set_option linter.unusedSectionVars false
namespace Go.Ev
open Go Go.RowKit Go.Proofs
set_option maxRecDepth 1000000
theorem pass_line2 : chkR .normal fP (gP 3) oP sR (passOf (KP (tabI2 2 ++ tabP 3) (xlP 3)) 3000 17 (false :: false :: way17) sR) = true := by kernel_rfl
end Go.Ev
