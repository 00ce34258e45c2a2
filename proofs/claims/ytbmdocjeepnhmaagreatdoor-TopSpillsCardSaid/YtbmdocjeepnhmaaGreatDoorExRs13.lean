/- TopSpills: steps of the connection. Printed by genS.py. -/
import Derived.Test.YtbmdocjeepnhmaaGreatDoorExRi
set_option linter.unusedVariables false
set_option linter.unusedSimpArgs false
set_option linter.unusedSectionVars false
namespace Go.Ev
open Go Go.RowKit Go.Proofs
set_option maxRecDepth 1000000
theorem fr_1 : freeB rr1.2 = true := by kernel_rfl
theorem run_1 : runS ⟨0, 31, 0, 31, 0, 62⟩ hh1 rr1 = true := by kernel_rfl
theorem fr_21 : freeB rr21.2 = true := by kernel_rfl
theorem run_21 : runS ⟨0, 31, 224, 479, 224, 510⟩ hh17 rr21 = true := by kernel_rfl
theorem fr_48 : freeB rr48.2 = true := by kernel_rfl
theorem run_48 : runS ⟨32, 87, 88, 95, 120, 182⟩ hh35 rr48 = true := by kernel_rfl
theorem fr_54 : freeB rr54.2 = true := by kernel_rfl
theorem run_54 : runS ⟨32, 87, 96, 223, 128, 310⟩ hh43 rr54 = true := by kernel_rfl
theorem fr_62 : freeB rr62.2 = true := by kernel_rfl
theorem run_62 : runS ⟨32, 87, 429, 479, 461, 566⟩ hh48 rr62 = true := by kernel_rfl
theorem fr_63 : freeB rr63.2 = true := by kernel_rfl
theorem run_63 : runS ⟨32, 87, 429, 479, 461, 566⟩ hh50 rr63 = true := by kernel_rfl
theorem fr_64 : freeB rr64.2 = true := by kernel_rfl
theorem run_64 : runS ⟨32, 87, 480, 991, 512, 1078⟩ hh30 rr64 = true := by kernel_rfl
theorem fr_120 : freeB rr120.2 = true := by kernel_rfl
theorem run_120 : runS ⟨96, 223, 88, 95, 184, 318⟩ hh91 rr120 = true := by kernel_rfl
theorem fr_126 : freeB rr126.2 = true := by kernel_rfl
theorem run_126 : runS ⟨96, 223, 96, 223, 192, 446⟩ hh99 rr126 = true := by kernel_rfl
theorem fr_127 : freeB rr127.2 = true := by kernel_rfl
theorem run_127 : runS ⟨96, 223, 96, 223, 192, 395⟩ hh100 rr127 = true := by kernel_rfl
theorem fr_128 : freeB rr128.2 = true := by kernel_rfl
theorem run_128 : runS ⟨96, 223, 96, 223, 192, 395⟩ hh101 rr128 = true := by kernel_rfl
theorem fr_156 : freeB rr156.2 = true := by kernel_rfl
theorem run_156 : runS ⟨224, 479, 32, 95, 256, 574⟩ hh117 rr156 = true := by kernel_rfl
theorem fr_182 : freeB rr182.2 = true := by kernel_rfl
theorem run_182 : runS ⟨224, 479, 480, 991, 704, 1406⟩ hh141 rr182 = true := by kernel_rfl
theorem fr_183 : freeB rr183.2 = true := by kernel_rfl
theorem run_183 : runS ⟨224, 479, 480, 991, 704, 1406⟩ hh142 rr183 = true := by kernel_rfl
theorem fr_208 : freeB rr208.2 = true := by kernel_rfl
theorem run_208 : runS ⟨480, 991, 32, 87, 512, 1078⟩ hh159 rr208 = true := by kernel_rfl
theorem fr_213 : freeB rr213.2 = true := by kernel_rfl
theorem run_213 : runS ⟨480, 991, 88, 95, 568, 1086⟩ hh163 rr213 = true := by kernel_rfl
theorem fr_235 : freeB rr235.2 = true := by kernel_rfl
theorem run_235 : runS ⟨480, 991, 480, 991, 960, 1982⟩ hh180 rr235 = true := by kernel_rfl
theorem fr_239 : freeB rr239.2 = true := by kernel_rfl
theorem run_239 : runS ⟨480, 991, 992, 1000, 1472, 1991⟩ hh183 rr239 = true := by kernel_rfl
theorem fr_261 : freeB rr261.2 = true := by kernel_rfl
theorem run_261 : runS ⟨992, 1000, 224, 479, 1216, 1479⟩ hh185 rr261 = true := by kernel_rfl
theorem fr_278 : freeB rr278.2 = true := by kernel_rfl
theorem run_278 : runS ⟨992, 1000, 992, 1000, 1984, 2000⟩ hh213 rr278 = true := by kernel_rfl
end Go.Ev
