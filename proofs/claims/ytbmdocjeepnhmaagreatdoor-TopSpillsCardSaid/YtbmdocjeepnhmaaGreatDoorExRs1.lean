/- TopSpills: steps of the connection. Printed by genS.py. -/
import Derived.Test.YtbmdocjeepnhmaaGreatDoorExRi
set_option linter.unusedVariables false
set_option linter.unusedSimpArgs false
set_option linter.unusedSectionVars false
namespace Go.Ev
open Go Go.RowKit Go.Proofs
set_option maxRecDepth 1000000
theorem run_0_1 : runS ⟨0, 31, 224, 1000, 224, 1031⟩ hh0 rr0 = true := by kernel_rfl
theorem fr_9 : freeB rr9.2 = true := by kernel_rfl
theorem run_9 : runS ⟨0, 31, 32, 87, 32, 118⟩ hh8 rr9 = true := by kernel_rfl
theorem fr_47 : freeB rr47.2 = true := by kernel_rfl
theorem run_47 : runS ⟨32, 87, 32, 87, 64, 174⟩ hh38 rr47 = true := by kernel_rfl
theorem fr_52 : freeB rr52.2 = true := by kernel_rfl
theorem run_52 : runS ⟨32, 87, 96, 223, 128, 310⟩ hh30 rr52 = true := by kernel_rfl
theorem fr_58 : freeB rr58.2 = true := by kernel_rfl
theorem run_58 : runS ⟨32, 87, 224, 479, 256, 566⟩ hh46 rr58 = true := by kernel_rfl
theorem fr_72 : freeB rr72.2 = true := by kernel_rfl
theorem run_72 : runS ⟨32, 87, 992, 1000, 1024, 1087⟩ hh57 rr72 = true := by kernel_rfl
theorem fr_94 : freeB rr94.2 = true := by kernel_rfl
theorem run_94 : runS ⟨88, 95, 224, 479, 312, 574⟩ hh74 rr94 = true := by kernel_rfl
theorem fr_108 : freeB rr108.2 = true := by kernel_rfl
theorem run_108 : runS ⟨88, 95, 992, 1000, 1080, 1095⟩ hh85 rr108 = true := by kernel_rfl
theorem fr_132 : freeB rr132.2 = true := by kernel_rfl
theorem run_132 : runS ⟨96, 223, 224, 479, 320, 702⟩ hh103 rr132 = true := by kernel_rfl
theorem fr_134 : freeB rr134.2 = true := by kernel_rfl
theorem run_134 : runS ⟨96, 223, 224, 428, 320, 395⟩ hh105 rr134 = true := by kernel_rfl
theorem fr_145 : freeB rr145.2 = true := by kernel_rfl
theorem run_145 : runS ⟨96, 223, 992, 1000, 1088, 1223⟩ hh86 rr145 = true := by kernel_rfl
theorem fr_166 : freeB rr166.2 = true := by kernel_rfl
theorem run_166 : runS ⟨224, 479, 88, 95, 396, 574⟩ hh129 rr166 = true := by kernel_rfl
theorem fr_176 : freeB rr176.2 = true := by kernel_rfl
theorem run_176 : runS ⟨224, 479, 224, 479, 448, 958⟩ hh136 rr176 = true := by kernel_rfl
theorem fr_189 : freeB rr189.2 = true := by kernel_rfl
theorem run_189 : runS ⟨224, 428, 992, 1000, 1216, 1406⟩ hh146 rr189 = true := by kernel_rfl
theorem fr_217 : freeB rr217.2 = true := by kernel_rfl
theorem run_217 : runS ⟨480, 991, 96, 223, 576, 1214⟩ hh166 rr217 = true := by kernel_rfl
theorem fr_220 : freeB rr220.2 = true := by kernel_rfl
theorem run_220 : runS ⟨480, 991, 96, 223, 576, 1214⟩ hh169 rr220 = true := by kernel_rfl
theorem fr_241 : freeB rr241.2 = true := by kernel_rfl
theorem run_241 : runS ⟨992, 1000, 0, 223, 992, 1223⟩ hh0 rr241 = true := by kernel_rfl
theorem fr_247 : freeB rr247.2 = true := by kernel_rfl
theorem run_247 : runS ⟨992, 1000, 32, 95, 1024, 1095⟩ hh185 rr247 = true := by kernel_rfl
theorem fr_250 : freeB rr250.2 = true := by kernel_rfl
theorem run_250 : runS ⟨992, 1000, 32, 87, 1024, 1087⟩ hh192 rr250 = true := by kernel_rfl
theorem fr_253 : freeB rr253.2 = true := by kernel_rfl
theorem run_253 : runS ⟨992, 1000, 88, 95, 1080, 1095⟩ hh194 rr253 = true := by kernel_rfl
theorem fr_281 : freeB rr281.2 = true := by kernel_rfl
theorem run_281 : runS ⟨992, 1000, 992, 1000, 1984, 2000⟩ hh216 rr281 = true := by kernel_rfl
end Go.Ev
