/- Passes of Run: a connection that has no line. -/
import Derived.Test.YtbmdocjeepnhmaaGreatDoorEvTb
set_option linter.unusedVariables false
set_option linter.unusedSimpArgs false
set_option linter.unusedSectionVars false
namespace Go.Ev
open Go Go.RowKit Go.Proofs
set_option maxRecDepth 1000000
theorem pass_no0 : chkR .normal [] gNo oNo sR (passOf (KP (tabI2 0 ++ tabNo 1) (xlNo 1)) 3000 17 (false :: false :: way17) sR) = true := by kernel_rfl
theorem pass_no1 : chkR .normal [] gNo oNo sR (passOf (KP (tabI2 1 ++ tabNo 2) (xlNo 2)) 3000 17 (false :: false :: way17) sR) = true := by kernel_rfl
theorem pass_no2 : chkR .normal [] gNo oNo sR (passOf (KP (tabI2 2 ++ tabNo 3) (xlNo 3)) 3000 17 (false :: false :: way17) sR) = true := by kernel_rfl
theorem pass_no3 : chkR .normal [] gNo oNo sR (passOf (KP (tabI2 3 ++ tabNo 4) (xlNo 4)) 3000 17 (false :: false :: way17) sR) = true := by kernel_rfl
end Go.Ev
