/- TopSpills: steps of the connection. Printed by genS.py. -/
import Derived.Test.YtbmdocjeepnhmaaGreatDoorExRi
set_option linter.unusedVariables false
set_option linter.unusedSimpArgs false
set_option linter.unusedSectionVars false
namespace Go.Ev
open Go Go.RowKit Go.Proofs
set_option maxRecDepth 1000000
theorem fr_0 : freeB rr0.2 = true := by kernel_rfl
theorem run_0 : runS ⟨0, 31, 0, 223, 0, 254⟩ hh0 rr0 = true := by kernel_rfl
theorem fr_4 : freeB rr4.2 = true := by kernel_rfl
theorem run_4 : runS ⟨0, 31, 0, 31, 0, 62⟩ hh4 rr4 = true := by kernel_rfl
theorem fr_42 : freeB rr42.2 = true := by kernel_rfl
theorem run_42 : runS ⟨32, 87, 0, 31, 32, 118⟩ hh34 rr42 = true := by kernel_rfl
theorem fr_43 : freeB rr43.2 = true := by kernel_rfl
theorem run_43 : runS ⟨32, 95, 32, 95, 64, 190⟩ hh30 rr43 = true := by kernel_rfl
theorem fr_53 : freeB rr53.2 = true := by kernel_rfl
theorem run_53 : runS ⟨32, 87, 96, 223, 128, 310⟩ hh42 rr53 = true := by kernel_rfl
theorem fr_67 : freeB rr67.2 = true := by kernel_rfl
theorem run_67 : runS ⟨32, 87, 480, 991, 512, 1078⟩ hh53 rr67 = true := by kernel_rfl
theorem fr_89 : freeB rr89.2 = true := by kernel_rfl
theorem run_89 : runS ⟨88, 95, 96, 223, 184, 318⟩ hh70 rr89 = true := by kernel_rfl
theorem fr_103 : freeB rr103.2 = true := by kernel_rfl
theorem run_103 : runS ⟨88, 95, 480, 991, 568, 1086⟩ hh81 rr103 = true := by kernel_rfl
theorem fr_125 : freeB rr125.2 = true := by kernel_rfl
theorem run_125 : runS ⟨96, 223, 96, 223, 192, 446⟩ hh98 rr125 = true := by kernel_rfl
theorem fr_129 : freeB rr129.2 = true := by kernel_rfl
theorem run_129 : runS ⟨96, 223, 96, 223, 396, 446⟩ hh100 rr129 = true := by kernel_rfl
theorem fr_140 : freeB rr140.2 = true := by kernel_rfl
theorem run_140 : runS ⟨96, 223, 480, 991, 576, 1214⟩ hh86 rr140 = true := by kernel_rfl
theorem fr_164 : freeB rr164.2 = true := by kernel_rfl
theorem run_164 : runS ⟨224, 428, 88, 95, 312, 395⟩ hh128 rr164 = true := by kernel_rfl
theorem fr_169 : freeB rr169.2 = true := by kernel_rfl
theorem run_169 : runS ⟨224, 479, 96, 223, 320, 702⟩ hh131 rr169 = true := by kernel_rfl
theorem fr_184 : freeB rr184.2 = true := by kernel_rfl
theorem run_184 : runS ⟨224, 479, 480, 991, 1407, 1470⟩ hh141 rr184 = true := by kernel_rfl
theorem run_201_1 : runS ⟨480, 991, 224, 1000, 704, 1991⟩ hh0 rr201 = true := by kernel_rfl
theorem fr_212 : freeB rr212.2 = true := by kernel_rfl
theorem run_212 : runS ⟨480, 991, 88, 95, 568, 1086⟩ hh159 rr212 = true := by kernel_rfl
theorem fr_215 : freeB rr215.2 = true := by kernel_rfl
theorem run_215 : runS ⟨480, 991, 88, 95, 568, 1086⟩ hh165 rr215 = true := by kernel_rfl
theorem fr_242 : freeB rr242.2 = true := by kernel_rfl
theorem run_242 : runS ⟨992, 1000, 0, 31, 992, 1031⟩ hh185 rr242 = true := by kernel_rfl
theorem fr_245 : freeB rr245.2 = true := by kernel_rfl
theorem run_245 : runS ⟨992, 1000, 0, 31, 992, 1031⟩ hh188 rr245 = true := by kernel_rfl
theorem fr_249 : freeB rr249.2 = true := by kernel_rfl
theorem run_249 : runS ⟨992, 1000, 32, 87, 1024, 1087⟩ hh191 rr249 = true := by kernel_rfl
theorem fr_276 : freeB rr276.2 = true := by kernel_rfl
theorem run_276 : runS ⟨992, 1000, 480, 991, 1472, 1991⟩ hh212 rr276 = true := by kernel_rfl
end Go.Ev
