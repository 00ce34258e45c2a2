/- Number, Text and Itoa at 126 numbers: closed runs. -/
import Derived.Test.YtbmdocjeepnhmaaGreatDoorExB10
set_option linter.unusedVariables false
set_option linter.unusedSimpArgs false
set_option linter.unusedSectionVars false
namespace Go.Ev
open Go Go.RowKit Go.Proofs
set_option maxRecDepth 1000000
theorem num4_6 : (List.range' 756 126).all (fun v => isNum4 v (callG Tryz.prog KB (evG Tryz.prog KB 300) 285 [.v (.one (.s (dec4 v)))] hp0)) = true := by kernel_rfl
theorem text4_6 : (List.range' 756 126).all (fun v => isTxt4 v (callG Tryz.prog KB (evG Tryz.prog KB 300) 16 [.v (.one (.i .u64 (.ofNat v)))] hp0)) = true := by kernel_rfl
end Go.Ev
namespace Go.Ev
open Go Go.RowKit Go.Proofs
set_option maxRecDepth 1000000
theorem num4_7 : (List.range' 882 126).all (fun v => isNum4 v (callG Tryz.prog KB (evG Tryz.prog KB 300) 285 [.v (.one (.s (dec4 v)))] hp0)) = true := by kernel_rfl
theorem text4_7 : (List.range' 882 126).all (fun v => isTxt4 v (callG Tryz.prog KB (evG Tryz.prog KB 300) 16 [.v (.one (.i .u64 (.ofNat v)))] hp0)) = true := by kernel_rfl
end Go.Ev
