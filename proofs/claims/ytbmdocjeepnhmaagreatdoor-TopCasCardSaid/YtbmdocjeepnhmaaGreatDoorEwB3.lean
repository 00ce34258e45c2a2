/- TopCas, run from its begin to its end, by the state behind Run. -/
import Derived.Test.YtbmdocjeepnhmaaGreatDoorEwTw
set_option linter.unusedVariables false
set_option linter.unusedSimpArgs false
set_option linter.unusedSectionVars false
namespace Go.Ev
open Go Go.RowKit Go.Proofs
set_option maxRecDepth 1000000
theorem all_S1x3 : isTrue (callG Tryz.prog (KF [] zS1x3) (evG Tryz.prog (KF [] zS1x3) 3000) 6 args6 h06) = true := by kernel_rfl
end Go.Ev
namespace Go.Ev
open Go Go.RowKit Go.Proofs
set_option maxRecDepth 1000000
theorem all_S1x4 : isTrue (callG Tryz.prog (KF [] zS1x4) (evG Tryz.prog (KF [] zS1x4) 3000) 6 args6 h06) = true := by kernel_rfl
end Go.Ev
