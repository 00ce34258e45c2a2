/- Number and Text at numbers from 0: closed runs. -/
import Derived.Test.YtbmdocjeepnhmaaGreatDoorEwNum
set_option linter.unusedVariables false
set_option linter.unusedSimpArgs false
set_option linter.unusedSectionVars false
namespace Go.Ev
open Go Go.RowKit Go.Proofs
set_option maxRecDepth 1000000
theorem num_all0 : (List.range' 0 126).all (fun v => isNum v (callG Tryz.prog KB (evG Tryz.prog KB 300) 285 [.v (.one (.s (dec v)))] hp0)) = true := by kernel_rfl
theorem text_all0 : (List.range' 0 126).all (fun v => isTx3 v (callG Tryz.prog KB (evG Tryz.prog KB 300) 16 [.v (.one (.i .u64 (.ofNat v)))] hp0)) = true := by kernel_rfl
end Go.Ev
namespace Go.Ev
open Go Go.RowKit Go.Proofs
set_option maxRecDepth 1000000
theorem num_all1 : (List.range' 126 126).all (fun v => isNum v (callG Tryz.prog KB (evG Tryz.prog KB 300) 285 [.v (.one (.s (dec v)))] hp0)) = true := by kernel_rfl
theorem text_all1 : (List.range' 126 126).all (fun v => isTx3 v (callG Tryz.prog KB (evG Tryz.prog KB 300) 16 [.v (.one (.i .u64 (.ofNat v)))] hp0)) = true := by kernel_rfl
end Go.Ev
