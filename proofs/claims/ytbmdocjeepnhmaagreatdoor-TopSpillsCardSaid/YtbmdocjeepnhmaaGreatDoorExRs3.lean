/- TopSpills: steps of the connection. Printed by genS.py. -/
import Derived.Test.YtbmdocjeepnhmaaGreatDoorExRi
set_option linter.unusedVariables false
set_option linter.unusedSimpArgs false
set_option linter.unusedSectionVars false
namespace Go.Ev
open Go Go.RowKit Go.Proofs
set_option maxRecDepth 1000000
theorem fr_3 : freeB rr3.2 = true := by kernel_rfl
theorem run_3 : runS ⟨0, 31, 0, 31, 0, 62⟩ hh3 rr3 = true := by kernel_rfl
theorem fr_6 : freeB rr6.2 = true := by kernel_rfl
theorem run_6 : runS ⟨0, 31, 32, 95, 32, 126⟩ hh1 rr6 = true := by kernel_rfl
theorem fr_14 : freeB rr14.2 = true := by kernel_rfl
theorem run_14 : runS ⟨0, 31, 88, 95, 88, 126⟩ hh12 rr14 = true := by kernel_rfl
theorem fr_18 : freeB rr18.2 = true := by kernel_rfl
theorem run_18 : runS ⟨0, 31, 96, 223, 96, 254⟩ hh15 rr18 = true := by kernel_rfl
theorem run_37_1 : runS ⟨32, 95, 224, 1000, 256, 1095⟩ hh0 rr37 = true := by kernel_rfl
theorem fr_59 : freeB rr59.2 = true := by kernel_rfl
theorem run_59 : runS ⟨32, 87, 224, 479, 256, 566⟩ hh47 rr59 = true := by kernel_rfl
theorem fr_70 : freeB rr70.2 = true := by kernel_rfl
theorem run_70 : runS ⟨32, 87, 992, 1000, 1024, 1087⟩ hh55 rr70 = true := by kernel_rfl
theorem fr_78 : freeB rr78.2 = true := by kernel_rfl
theorem run_78 : runS ⟨88, 95, 0, 31, 88, 126⟩ hh62 rr78 = true := by kernel_rfl
theorem fr_81 : freeB rr81.2 = true := by kernel_rfl
theorem run_81 : runS ⟨88, 95, 32, 87, 120, 182⟩ hh64 rr81 = true := by kernel_rfl
theorem fr_99 : freeB rr99.2 = true := by kernel_rfl
theorem run_99 : runS ⟨88, 95, 480, 991, 568, 1086⟩ hh30 rr99 = true := by kernel_rfl
theorem fr_133 : freeB rr133.2 = true := by kernel_rfl
theorem run_133 : runS ⟨96, 223, 224, 479, 320, 702⟩ hh104 rr133 = true := by kernel_rfl
theorem fr_137 : freeB rr137.2 = true := by kernel_rfl
theorem run_137 : runS ⟨96, 223, 224, 428, 396, 651⟩ hh107 rr137 = true := by kernel_rfl
theorem fr_138 : freeB rr138.2 = true := by kernel_rfl
theorem run_138 : runS ⟨96, 223, 429, 479, 525, 702⟩ hh105 rr138 = true := by kernel_rfl
theorem fr_146 : freeB rr146.2 = true := by kernel_rfl
theorem run_146 : runS ⟨96, 223, 992, 1000, 1088, 1223⟩ hh113 rr146 = true := by kernel_rfl
theorem fr_194 : freeB rr194.2 = true := by kernel_rfl
theorem run_194 : runS ⟨224, 479, 992, 1000, 1407, 1479⟩ hh150 rr194 = true := by kernel_rfl
theorem fr_195 : freeB rr195.2 = true := by kernel_rfl
theorem run_195 : runS ⟨429, 479, 0, 31, 429, 510⟩ hh120 rr195 = true := by kernel_rfl
theorem fr_202 : freeB rr202.2 = true := by kernel_rfl
theorem run_202 : runS ⟨480, 991, 0, 31, 480, 1022⟩ hh154 rr202 = true := by kernel_rfl
theorem fr_218 : freeB rr218.2 = true := by kernel_rfl
theorem run_218 : runS ⟨480, 991, 96, 223, 576, 1214⟩ hh167 rr218 = true := by kernel_rfl
theorem fr_226 : freeB rr226.2 = true := by kernel_rfl
theorem run_226 : runS ⟨480, 991, 224, 479, 1407, 1470⟩ hh170 rr226 = true := by kernel_rfl
theorem fr_251 : freeB rr251.2 = true := by kernel_rfl
theorem run_251 : runS ⟨992, 1000, 32, 87, 1024, 1087⟩ hh193 rr251 = true := by kernel_rfl
theorem fr_259 : freeB rr259.2 = true := by kernel_rfl
theorem run_259 : runS ⟨992, 1000, 96, 223, 1088, 1223⟩ hh199 rr259 = true := by kernel_rfl
end Go.Ev
