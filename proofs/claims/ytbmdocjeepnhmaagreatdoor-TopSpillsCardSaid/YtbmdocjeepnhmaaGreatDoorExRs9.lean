/- TopSpills: steps of the connection. Printed by genS.py. -/
import Derived.Test.YtbmdocjeepnhmaaGreatDoorExRi
set_option linter.unusedVariables false
set_option linter.unusedSimpArgs false
set_option linter.unusedSectionVars false
namespace Go.Ev
open Go Go.RowKit Go.Proofs
set_option maxRecDepth 1000000
theorem fr_2 : freeB rr2.2 = true := by kernel_rfl
theorem run_2 : runS ⟨0, 31, 0, 31, 0, 62⟩ hh2 rr2 = true := by kernel_rfl
theorem fr_28 : freeB rr28.2 = true := by kernel_rfl
theorem run_28 : runS ⟨0, 31, 480, 991, 480, 1022⟩ hh22 rr28 = true := by kernel_rfl
theorem fr_34 : freeB rr34.2 = true := by kernel_rfl
theorem run_34 : runS ⟨0, 31, 992, 1000, 992, 1031⟩ hh27 rr34 = true := by kernel_rfl
theorem fr_46 : freeB rr46.2 = true := by kernel_rfl
theorem run_46 : runS ⟨32, 87, 32, 87, 64, 174⟩ hh37 rr46 = true := by kernel_rfl
theorem fr_68 : freeB rr68.2 = true := by kernel_rfl
theorem run_68 : runS ⟨32, 87, 480, 991, 512, 1078⟩ hh54 rr68 = true := by kernel_rfl
theorem fr_69 : freeB rr69.2 = true := by kernel_rfl
theorem run_69 : runS ⟨32, 87, 992, 1000, 1024, 1087⟩ hh30 rr69 = true := by kernel_rfl
theorem fr_100 : freeB rr100.2 = true := by kernel_rfl
theorem run_100 : runS ⟨88, 95, 480, 991, 568, 1086⟩ hh78 rr100 = true := by kernel_rfl
theorem fr_106 : freeB rr106.2 = true := by kernel_rfl
theorem run_106 : runS ⟨88, 95, 992, 1000, 1080, 1095⟩ hh83 rr106 = true := by kernel_rfl
theorem fr_107 : freeB rr107.2 = true := by kernel_rfl
theorem run_107 : runS ⟨88, 95, 992, 1000, 1080, 1095⟩ hh84 rr107 = true := by kernel_rfl
theorem fr_130 : freeB rr130.2 = true := by kernel_rfl
theorem run_130 : runS ⟨96, 223, 96, 223, 396, 446⟩ hh102 rr130 = true := by kernel_rfl
theorem fr_165 : freeB rr165.2 = true := by kernel_rfl
theorem run_165 : runS ⟨224, 479, 88, 95, 396, 574⟩ hh127 rr165 = true := by kernel_rfl
theorem fr_167 : freeB rr167.2 = true := by kernel_rfl
theorem run_167 : runS ⟨224, 479, 96, 223, 320, 702⟩ hh117 rr167 = true := by kernel_rfl
theorem fr_180 : freeB rr180.2 = true := by kernel_rfl
theorem run_180 : runS ⟨224, 479, 480, 991, 704, 1470⟩ hh139 rr180 = true := by kernel_rfl
theorem fr_185 : freeB rr185.2 = true := by kernel_rfl
theorem run_185 : runS ⟨224, 479, 480, 991, 1407, 1470⟩ hh143 rr185 = true := by kernel_rfl
theorem fr_188 : freeB rr188.2 = true := by kernel_rfl
theorem run_188 : runS ⟨224, 428, 992, 1000, 1216, 1406⟩ hh145 rr188 = true := by kernel_rfl
theorem fr_219 : freeB rr219.2 = true := by kernel_rfl
theorem run_219 : runS ⟨480, 991, 96, 223, 576, 1214⟩ hh168 rr219 = true := by kernel_rfl
theorem fr_240 : freeB rr240.2 = true := by kernel_rfl
theorem run_240 : runS ⟨480, 991, 992, 1000, 1472, 1991⟩ hh184 rr240 = true := by kernel_rfl
theorem fr_257 : freeB rr257.2 = true := by kernel_rfl
theorem run_257 : runS ⟨992, 1000, 96, 223, 1088, 1223⟩ hh197 rr257 = true := by kernel_rfl
theorem fr_263 : freeB rr263.2 = true := by kernel_rfl
theorem run_263 : runS ⟨992, 1000, 224, 428, 1216, 1406⟩ hh202 rr263 = true := by kernel_rfl
theorem fr_272 : freeB rr272.2 = true := by kernel_rfl
theorem run_272 : runS ⟨992, 1000, 480, 991, 1472, 1991⟩ hh185 rr272 = true := by kernel_rfl
end Go.Ev
