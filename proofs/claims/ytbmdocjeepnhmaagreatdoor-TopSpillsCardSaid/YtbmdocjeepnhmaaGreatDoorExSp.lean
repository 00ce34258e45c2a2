/- TopSpills: the hooks with what is told already. -/
import Derived.Test.YtbmdocjeepnhmaaGreatDoorExB12
import Derived.Test.YtbmdocjeepnhmaaGreatDoorExPb
import Derived.Test.YtbmdocjeepnhmaaGreatDoorExPo
set_option linter.unusedVariables false
set_option linter.unusedSimpArgs false
set_option linter.unusedSectionVars false
namespace Go.Ev
open Go Go.RowKit Go.Proofs
noncomputable def exS : CallT := memo 8 Xa8 Ha8 Ra8 (memo 28 Xo28 Ho28 Ro28 (memoF 273 Xo273 Ho273 Ro273 (exI exB)))
theorem exS_ok {S : Sy} {w0 : Base} : @CallOk S Tryz.prog w0 exS := memo2_ok Ka8_ok run_a8 fr_a8 (memo2_ok KJ_ok run_o28 fr_o28 (memoF_ok (fun z => KJ_ok) run_o273 fr_o273 fr0_o273 (exI_ok (@exB_ok S w0))))
def hp00 : Hp := ⟨.lf none, 0⟩
def isTrue (r : Option (AV × Hp)) : Bool := match r with
 | some (.v (.one (.b true)), _) => true
 | _ => false
/-- The whole, for all texts within the bounds. -/
noncomputable def flow (K : Kd) : Bool := bif wfT K (crcT K) then isTrue (callG Tryz.prog (KW K exS) (evG Tryz.prog (KW K exS) 3000) 3 [argS 0, argS 1] hp00) else false
end Go.Ev
