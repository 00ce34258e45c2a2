/- TopSpills: steps of the connection. Printed by genS.py. -/
import Derived.Test.YtbmdocjeepnhmaaGreatDoorExRi
set_option linter.unusedVariables false
set_option linter.unusedSimpArgs false
set_option linter.unusedSectionVars false
namespace Go.Ev
open Go Go.RowKit Go.Proofs
set_option maxRecDepth 1000000
theorem fr_5 : freeB rr5.2 = true := by kernel_rfl
theorem run_5 : runS ⟨0, 31, 0, 31, 0, 62⟩ hh5 rr5 = true := by kernel_rfl
theorem fr_11 : freeB rr11.2 = true := by kernel_rfl
theorem run_11 : runS ⟨0, 31, 88, 95, 88, 126⟩ hh6 rr11 = true := by kernel_rfl
theorem fr_39 : freeB rr39.2 = true := by kernel_rfl
theorem run_39 : runS ⟨32, 87, 0, 31, 32, 118⟩ hh31 rr39 = true := by kernel_rfl
theorem fr_45 : freeB rr45.2 = true := by kernel_rfl
theorem run_45 : runS ⟨32, 87, 32, 87, 64, 174⟩ hh36 rr45 = true := by kernel_rfl
theorem fr_55 : freeB rr55.2 = true := by kernel_rfl
theorem run_55 : runS ⟨32, 87, 96, 223, 128, 310⟩ hh44 rr55 = true := by kernel_rfl
theorem fr_56 : freeB rr56.2 = true := by kernel_rfl
theorem run_56 : runS ⟨32, 87, 96, 223, 128, 310⟩ hh45 rr56 = true := by kernel_rfl
theorem fr_87 : freeB rr87.2 = true := by kernel_rfl
theorem run_87 : runS ⟨88, 95, 96, 223, 184, 318⟩ hh30 rr87 = true := by kernel_rfl
theorem fr_111 : freeB rr111.2 = true := by kernel_rfl
theorem run_111 : runS ⟨96, 223, 0, 31, 96, 254⟩ hh87 rr111 = true := by kernel_rfl
theorem fr_117 : freeB rr117.2 = true := by kernel_rfl
theorem run_117 : runS ⟨96, 223, 32, 87, 128, 310⟩ hh92 rr117 = true := by kernel_rfl
theorem fr_118 : freeB rr118.2 = true := by kernel_rfl
theorem run_118 : runS ⟨96, 223, 32, 87, 128, 310⟩ hh93 rr118 = true := by kernel_rfl
theorem fr_119 : freeB rr119.2 = true := by kernel_rfl
theorem run_119 : runS ⟨96, 223, 32, 87, 128, 310⟩ hh94 rr119 = true := by kernel_rfl
theorem fr_172 : freeB rr172.2 = true := by kernel_rfl
theorem run_172 : runS ⟨224, 428, 96, 223, 396, 651⟩ hh132 rr172 = true := by kernel_rfl
theorem fr_173 : freeB rr173.2 = true := by kernel_rfl
theorem run_173 : runS ⟨224, 428, 96, 223, 396, 651⟩ hh134 rr173 = true := by kernel_rfl
theorem fr_179 : freeB rr179.2 = true := by kernel_rfl
theorem run_179 : runS ⟨224, 479, 480, 991, 704, 1470⟩ hh117 rr179 = true := by kernel_rfl
theorem fr_191 : freeB rr191.2 = true := by kernel_rfl
theorem run_191 : runS ⟨224, 479, 992, 1000, 1407, 1479⟩ hh144 rr191 = true := by kernel_rfl
theorem fr_204 : freeB rr204.2 = true := by kernel_rfl
theorem run_204 : runS ⟨480, 991, 0, 31, 480, 1022⟩ hh156 rr204 = true := by kernel_rfl
theorem fr_228 : freeB rr228.2 = true := by kernel_rfl
theorem run_228 : runS ⟨480, 991, 224, 479, 1407, 1470⟩ hh175 rr228 = true := by kernel_rfl
theorem fr_229 : freeB rr229.2 = true := by kernel_rfl
theorem run_229 : runS ⟨480, 991, 224, 428, 1407, 1419⟩ hh176 rr229 = true := by kernel_rfl
theorem fr_266 : freeB rr266.2 = true := by kernel_rfl
theorem run_266 : runS ⟨992, 1000, 224, 479, 1407, 1479⟩ hh201 rr266 = true := by kernel_rfl
theorem fr_274 : freeB rr274.2 = true := by kernel_rfl
theorem run_274 : runS ⟨992, 1000, 480, 991, 1472, 1991⟩ hh210 rr274 = true := by kernel_rfl
end Go.Ev
