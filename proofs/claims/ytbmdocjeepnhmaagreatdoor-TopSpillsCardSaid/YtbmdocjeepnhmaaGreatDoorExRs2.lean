/- TopSpills: steps of the connection. Printed by genS.py. -/
import Derived.Test.YtbmdocjeepnhmaaGreatDoorExRi
set_option linter.unusedVariables false
set_option linter.unusedSimpArgs false
set_option linter.unusedSectionVars false
namespace Go.Ev
open Go Go.RowKit Go.Proofs
set_option maxRecDepth 1000000
theorem fr_13 : freeB rr13.2 = true := by kernel_rfl
theorem run_13 : runS ⟨0, 31, 88, 95, 88, 126⟩ hh11 rr13 = true := by kernel_rfl
theorem fr_37 : freeB rr37.2 = true := by kernel_rfl
theorem run_37 : runS ⟨32, 95, 0, 223, 32, 318⟩ hh0 rr37 = true := by kernel_rfl
theorem fr_51 : freeB rr51.2 = true := by kernel_rfl
theorem run_51 : runS ⟨32, 87, 88, 95, 120, 182⟩ hh41 rr51 = true := by kernel_rfl
theorem fr_57 : freeB rr57.2 = true := by kernel_rfl
theorem run_57 : runS ⟨32, 87, 224, 479, 256, 566⟩ hh30 rr57 = true := by kernel_rfl
theorem fr_65 : freeB rr65.2 = true := by kernel_rfl
theorem run_65 : runS ⟨32, 87, 480, 991, 512, 1078⟩ hh51 rr65 = true := by kernel_rfl
theorem fr_77 : freeB rr77.2 = true := by kernel_rfl
theorem run_77 : runS ⟨88, 95, 0, 31, 88, 126⟩ hh61 rr77 = true := by kernel_rfl
theorem fr_101 : freeB rr101.2 = true := by kernel_rfl
theorem run_101 : runS ⟨88, 95, 480, 991, 568, 1086⟩ hh79 rr101 = true := by kernel_rfl
theorem fr_114 : freeB rr114.2 = true := by kernel_rfl
theorem run_114 : runS ⟨96, 223, 0, 31, 96, 254⟩ hh90 rr114 = true := by kernel_rfl
theorem fr_136 : freeB rr136.2 = true := by kernel_rfl
theorem run_136 : runS ⟨96, 223, 224, 428, 396, 651⟩ hh105 rr136 = true := by kernel_rfl
theorem fr_141 : freeB rr141.2 = true := by kernel_rfl
theorem run_141 : runS ⟨96, 223, 480, 991, 576, 1214⟩ hh109 rr141 = true := by kernel_rfl
theorem fr_151 : freeB rr151.2 = true := by kernel_rfl
theorem run_151 : runS ⟨224, 479, 0, 31, 224, 510⟩ hh117 rr151 = true := by kernel_rfl
theorem fr_171 : freeB rr171.2 = true := by kernel_rfl
theorem run_171 : runS ⟨224, 428, 96, 223, 320, 395⟩ hh133 rr171 = true := by kernel_rfl
theorem fr_181 : freeB rr181.2 = true := by kernel_rfl
theorem run_181 : runS ⟨224, 479, 480, 991, 704, 1470⟩ hh140 rr181 = true := by kernel_rfl
theorem fr_193 : freeB rr193.2 = true := by kernel_rfl
theorem run_193 : runS ⟨224, 479, 992, 1000, 1407, 1479⟩ hh149 rr193 = true := by kernel_rfl
theorem fr_222 : freeB rr222.2 = true := by kernel_rfl
theorem run_222 : runS ⟨480, 991, 224, 479, 704, 1406⟩ hh170 rr222 = true := by kernel_rfl
theorem fr_225 : freeB rr225.2 = true := by kernel_rfl
theorem run_225 : runS ⟨480, 991, 224, 479, 704, 1406⟩ hh173 rr225 = true := by kernel_rfl
theorem run_241_1 : runS ⟨992, 1000, 224, 1000, 1216, 2000⟩ hh0 rr241 = true := by kernel_rfl
theorem fr_254 : freeB rr254.2 = true := by kernel_rfl
theorem run_254 : runS ⟨992, 1000, 88, 95, 1080, 1095⟩ hh195 rr254 = true := by kernel_rfl
theorem fr_256 : freeB rr256.2 = true := by kernel_rfl
theorem run_256 : runS ⟨992, 1000, 96, 223, 1088, 1223⟩ hh185 rr256 = true := by kernel_rfl
theorem fr_258 : freeB rr258.2 = true := by kernel_rfl
theorem run_258 : runS ⟨992, 1000, 96, 223, 1088, 1223⟩ hh198 rr258 = true := by kernel_rfl
end Go.Ev
