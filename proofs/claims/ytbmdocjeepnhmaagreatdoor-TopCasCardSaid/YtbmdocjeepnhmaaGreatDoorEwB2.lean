/- TopCas, run from its begin to its end, by the state behind Run. -/
import Derived.Test.YtbmdocjeepnhmaaGreatDoorEwTw
set_option linter.unusedVariables false
set_option linter.unusedSimpArgs false
set_option linter.unusedSectionVars false
namespace Go.Ev
open Go Go.RowKit Go.Proofs
set_option maxRecDepth 1000000
theorem all_S1x1 : isTrue (callG Tryz.prog (KF [] zS1x1) (evG Tryz.prog (KF [] zS1x1) 3000) 6 args6 h06) = true := by kernel_rfl
end Go.Ev
namespace Go.Ev
open Go Go.RowKit Go.Proofs
set_option maxRecDepth 1000000
theorem all_S1x2 : isTrue (callG Tryz.prog (KF [] zS1x2) (evG Tryz.prog (KF [] zS1x2) 3000) 6 args6 h06) = true := by kernel_rfl
end Go.Ev
