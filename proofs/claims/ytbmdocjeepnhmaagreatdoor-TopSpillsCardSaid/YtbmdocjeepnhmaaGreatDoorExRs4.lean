/- TopSpills: steps of the connection. Printed by genS.py. -/
import Derived.Test.YtbmdocjeepnhmaaGreatDoorExRi
set_option linter.unusedVariables false
set_option linter.unusedSimpArgs false
set_option linter.unusedSectionVars false
namespace Go.Ev
open Go Go.RowKit Go.Proofs
set_option maxRecDepth 1000000
theorem fr_8 : freeB rr8.2 = true := by kernel_rfl
theorem run_8 : runS ⟨0, 31, 32, 87, 32, 118⟩ hh7 rr8 = true := by kernel_rfl
theorem fr_15 : freeB rr15.2 = true := by kernel_rfl
theorem run_15 : runS ⟨0, 31, 96, 223, 96, 254⟩ hh1 rr15 = true := by kernel_rfl
theorem fr_19 : freeB rr19.2 = true := by kernel_rfl
theorem run_19 : runS ⟨0, 31, 96, 223, 96, 254⟩ hh16 rr19 = true := by kernel_rfl
theorem fr_23 : freeB rr23.2 = true := by kernel_rfl
theorem run_23 : runS ⟨0, 31, 224, 428, 224, 459⟩ hh19 rr23 = true := by kernel_rfl
theorem fr_66 : freeB rr66.2 = true := by kernel_rfl
theorem run_66 : runS ⟨32, 87, 480, 991, 512, 1078⟩ hh52 rr66 = true := by kernel_rfl
theorem fr_75 : freeB rr75.2 = true := by kernel_rfl
theorem run_75 : runS ⟨88, 95, 0, 31, 88, 126⟩ hh59 rr75 = true := by kernel_rfl
theorem fr_82 : freeB rr82.2 = true := by kernel_rfl
theorem run_82 : runS ⟨88, 95, 32, 87, 120, 182⟩ hh65 rr82 = true := by kernel_rfl
theorem fr_85 : freeB rr85.2 = true := by kernel_rfl
theorem run_85 : runS ⟨88, 95, 88, 95, 176, 190⟩ hh67 rr85 = true := by kernel_rfl
theorem fr_104 : freeB rr104.2 = true := by kernel_rfl
theorem run_104 : runS ⟨88, 95, 992, 1000, 1080, 1095⟩ hh30 rr104 = true := by kernel_rfl
theorem fr_109 : freeB rr109.2 = true := by kernel_rfl
theorem run_109 : runS ⟨96, 223, 0, 223, 96, 446⟩ hh0 rr109 = true := by kernel_rfl
theorem fr_139 : freeB rr139.2 = true := by kernel_rfl
theorem run_139 : runS ⟨96, 223, 429, 479, 525, 702⟩ hh108 rr139 = true := by kernel_rfl
theorem fr_142 : freeB rr142.2 = true := by kernel_rfl
theorem run_142 : runS ⟨96, 223, 480, 991, 576, 1214⟩ hh110 rr142 = true := by kernel_rfl
theorem fr_143 : freeB rr143.2 = true := by kernel_rfl
theorem run_143 : runS ⟨96, 223, 480, 991, 576, 1214⟩ hh111 rr143 = true := by kernel_rfl
theorem fr_152 : freeB rr152.2 = true := by kernel_rfl
theorem run_152 : runS ⟨224, 479, 0, 31, 224, 510⟩ hh118 rr152 = true := by kernel_rfl
theorem fr_196 : freeB rr196.2 = true := by kernel_rfl
theorem run_196 : runS ⟨429, 479, 0, 31, 429, 510⟩ hh151 rr196 = true := by kernel_rfl
theorem fr_197 : freeB rr197.2 = true := by kernel_rfl
theorem run_197 : runS ⟨429, 479, 32, 87, 461, 566⟩ hh124 rr197 = true := by kernel_rfl
theorem fr_207 : freeB rr207.2 = true := by kernel_rfl
theorem run_207 : runS ⟨480, 991, 32, 95, 512, 1086⟩ hh154 rr207 = true := by kernel_rfl
theorem fr_223 : freeB rr223.2 = true := by kernel_rfl
theorem run_223 : runS ⟨480, 991, 224, 479, 704, 1406⟩ hh171 rr223 = true := by kernel_rfl
theorem fr_232 : freeB rr232.2 = true := by kernel_rfl
theorem run_232 : runS ⟨480, 991, 480, 991, 960, 1982⟩ hh177 rr232 = true := by kernel_rfl
theorem fr_255 : freeB rr255.2 = true := by kernel_rfl
theorem run_255 : runS ⟨992, 1000, 88, 95, 1080, 1095⟩ hh196 rr255 = true := by kernel_rfl
theorem fr_264 : freeB rr264.2 = true := by kernel_rfl
theorem run_264 : runS ⟨992, 1000, 224, 428, 1216, 1406⟩ hh203 rr264 = true := by kernel_rfl
end Go.Ev
