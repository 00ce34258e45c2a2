/- Number and Text at numbers from 252: closed runs. -/
import Derived.Test.YtbmdocjeepnhmaaGreatDoorEwNum
set_option linter.unusedVariables false
set_option linter.unusedSimpArgs false
set_option linter.unusedSectionVars false
namespace Go.Ev
open Go Go.RowKit Go.Proofs
set_option maxRecDepth 1000000
theorem num_all2 : (List.range' 252 126).all (fun v => isNum v (callG Tryz.prog KB (evG Tryz.prog KB 300) 285 [.v (.one (.s (dec v)))] hp0)) = true := by kernel_rfl
theorem text_all2 : (List.range' 252 126).all (fun v => isTx3 v (callG Tryz.prog KB (evG Tryz.prog KB 300) 16 [.v (.one (.i .u64 (.ofNat v)))] hp0)) = true := by kernel_rfl
end Go.Ev
namespace Go.Ev
open Go Go.RowKit Go.Proofs
set_option maxRecDepth 1000000
theorem num_all3 : (List.range' 378 126).all (fun v => isNum v (callG Tryz.prog KB (evG Tryz.prog KB 300) 285 [.v (.one (.s (dec v)))] hp0)) = true := by kernel_rfl
theorem text_all3 : (List.range' 378 126).all (fun v => isTx3 v (callG Tryz.prog KB (evG Tryz.prog KB 300) 16 [.v (.one (.i .u64 (.ofNat v)))] hp0)) = true := by kernel_rfl
end Go.Ev
