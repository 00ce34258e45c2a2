/- A pass of Run: connection 4 has a line. -/
import Derived.Test.YtbmdocjeepnhmaaGreatDoorEvTb
set_option linter.unusedVariables false
set_option linter.unusedSimpArgs false
set_option linter.unusedSectionVars false
namespace Go.Ev
open Go Go.RowKit Go.Proofs
set_option maxRecDepth 1000000
theorem pass_line3 : chkR .normal fP (gP 4) oP sR (passOf (KP (tabI2 3 ++ tabP 4) (xlP 4)) 3000 17 (false :: false :: way17) sR) = true := by kernel_rfl
end Go.Ev
