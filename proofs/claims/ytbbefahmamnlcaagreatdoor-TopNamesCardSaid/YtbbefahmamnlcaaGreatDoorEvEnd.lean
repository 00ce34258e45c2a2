/- The whole run. -/
import Derived.Test.YtbbefahmamnlcaaGreatDoorEvP6
import Derived.Test.YtbbefahmamnlcaaGreatDoorEvP10
set_option linter.unusedVariables false
set_option linter.unusedSimpArgs false
set_option linter.unusedSectionVars false
namespace Go.Ev
open Go Go.RowKit Go.Proofs
set_option maxRecDepth 1000000
noncomputable def exT : CallT := memo 6 X6 H6 R6 (memo 10 X10 H10 R10 exB)
theorem exT_ok {w0 : World} : CallOk Tryz.prog w0 exT := memo_ok exB_ok run6 (memo_ok exV_ok run10 exB_ok)
theorem run3 : (callG Tryz.prog exT (evG Tryz.prog exT 3000) 3 [] ⟨.lf none, 0⟩).map (·.1) = some (.v (.one (.b true))) := by kernel_rfl
end Go.Ev
