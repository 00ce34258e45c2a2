/- TopCas, run from its begin to its end, by the state behind Run. -/
import Derived.Test.YtbmdocjeepnhmaaGreatDoorEwTw
set_option linter.unusedVariables false
set_option linter.unusedSimpArgs false
set_option linter.unusedSectionVars false
namespace Go.Ev
open Go Go.RowKit Go.Proofs
set_option maxRecDepth 1000000
theorem all_T0x0 : isTrue (callG Tryz.prog (KF [] zT0x0) (evG Tryz.prog (KF [] zT0x0) 3000) 6 args6 h06) = true := by kernel_rfl
end Go.Ev
namespace Go.Ev
open Go Go.RowKit Go.Proofs
set_option maxRecDepth 1000000
theorem all_T0x1 : isTrue (callG Tryz.prog (KF [] zT0x1) (evG Tryz.prog (KF [] zT0x1) 3000) 6 args6 h06) = true := by kernel_rfl
end Go.Ev
namespace Go.Ev
open Go Go.RowKit Go.Proofs
set_option maxRecDepth 1000000
theorem all_T0x2 : isTrue (callG Tryz.prog (KF [] zT0x2) (evG Tryz.prog (KF [] zT0x2) 3000) 6 args6 h06) = true := by kernel_rfl
end Go.Ev
namespace Go.Ev
open Go Go.RowKit Go.Proofs
set_option maxRecDepth 1000000
theorem all_T0x3 : isTrue (callG Tryz.prog (KF [] zT0x3) (evG Tryz.prog (KF [] zT0x3) 3000) 6 args6 h06) = true := by kernel_rfl
end Go.Ev
namespace Go.Ev
open Go Go.RowKit Go.Proofs
set_option maxRecDepth 1000000
theorem all_T0x4 : isTrue (callG Tryz.prog (KF [] zT0x4) (evG Tryz.prog (KF [] zT0x4) 3000) 6 args6 h06) = true := by kernel_rfl
end Go.Ev
