/- A part of the run: what one call makes of the memory. -/
import Derived.Test.YtbmdocjeepnhmaaGreatDoorExPa
set_option linter.unusedVariables false
set_option linter.unusedSimpArgs false
set_option linter.unusedSectionVars false
namespace Go.Ev
open Go Go.RowKit Go.Proofs
set_option maxRecDepth 1000000
noncomputable def exa8 : CallT := memo 28 Xa28 Ha28 Ra28 (memo 246 Xa246 Ha246 Ra246 (exJ (exI exB)))
theorem exa8_ok {S : Sy} {w0 : Base} : @CallOk S Tryz.prog w0 exa8 := memo2_ok KJ_ok run_a28 fr_a28 (memo2_ok KJ_ok run_a246 fr_a246 (exJ_ok (exI_ok (@exB_ok S w0))))
noncomputable def Ka8 : Hk := ⟨exa8, ruJ Tryz.prog, rp0, lo0⟩
theorem Ka8_ok {S : Sy} {w0 : Base} : @HkOk S Tryz.prog w0 Ka8 := @HkOk.mk S _ _ _ exa8_ok ruJ_ok (@rp0_ok S) (@lo0_ok S w0)
noncomputable def Xa8 : List AV := []
noncomputable def Ha8 : Hp := ⟨h_, 0⟩
noncomputable def Ra8 : AV × Hp := (.v (.one (.b true)), ⟨h_, 330⟩)
theorem fr_a8 : freeB Ra8.2 = true := by kernel_rfl
theorem run_a8 : chkM Ra8 (callG Tryz.prog Ka8 (evG Tryz.prog Ka8 3000) 8 Xa8 Ha8) = true := by kernel_rfl
end Go.Ev
