/- TopSpills: steps of the connection. Printed by genS.py. -/
import Derived.Test.YtbmdocjeepnhmaaGreatDoorExRi
set_option linter.unusedVariables false
set_option linter.unusedSimpArgs false
set_option linter.unusedSectionVars false
namespace Go.Ev
open Go Go.RowKit Go.Proofs
set_option maxRecDepth 1000000
theorem fr_12 : freeB rr12.2 = true := by kernel_rfl
theorem run_12 : runS ⟨0, 31, 88, 95, 88, 126⟩ hh10 rr12 = true := by kernel_rfl
theorem fr_20 : freeB rr20.2 = true := by kernel_rfl
theorem run_20 : runS ⟨0, 31, 224, 479, 224, 510⟩ hh1 rr20 = true := by kernel_rfl
theorem fr_24 : freeB rr24.2 = true := by kernel_rfl
theorem run_24 : runS ⟨0, 31, 224, 428, 224, 459⟩ hh20 rr24 = true := by kernel_rfl
theorem fr_25 : freeB rr25.2 = true := by kernel_rfl
theorem run_25 : runS ⟨0, 31, 429, 479, 429, 510⟩ hh19 rr25 = true := by kernel_rfl
theorem fr_71 : freeB rr71.2 = true := by kernel_rfl
theorem run_71 : runS ⟨32, 87, 992, 1000, 1024, 1087⟩ hh56 rr71 = true := by kernel_rfl
theorem fr_79 : freeB rr79.2 = true := by kernel_rfl
theorem run_79 : runS ⟨88, 95, 32, 87, 120, 182⟩ hh35 rr79 = true := by kernel_rfl
theorem fr_86 : freeB rr86.2 = true := by kernel_rfl
theorem run_86 : runS ⟨88, 95, 88, 95, 176, 190⟩ hh68 rr86 = true := by kernel_rfl
theorem fr_90 : freeB rr90.2 = true := by kernel_rfl
theorem run_90 : runS ⟨88, 95, 96, 223, 184, 318⟩ hh71 rr90 = true := by kernel_rfl
theorem run_109_1 : runS ⟨96, 223, 224, 1000, 320, 1223⟩ hh0 rr109 = true := by kernel_rfl
theorem fr_110 : freeB rr110.2 = true := by kernel_rfl
theorem run_110 : runS ⟨96, 223, 0, 31, 96, 254⟩ hh86 rr110 = true := by kernel_rfl
theorem fr_144 : freeB rr144.2 = true := by kernel_rfl
theorem run_144 : runS ⟨96, 223, 480, 991, 576, 1214⟩ hh112 rr144 = true := by kernel_rfl
theorem fr_147 : freeB rr147.2 = true := by kernel_rfl
theorem run_147 : runS ⟨96, 223, 992, 1000, 1088, 1223⟩ hh114 rr147 = true := by kernel_rfl
theorem fr_148 : freeB rr148.2 = true := by kernel_rfl
theorem run_148 : runS ⟨96, 223, 992, 1000, 1088, 1223⟩ hh115 rr148 = true := by kernel_rfl
theorem fr_157 : freeB rr157.2 = true := by kernel_rfl
theorem run_157 : runS ⟨224, 479, 32, 87, 256, 566⟩ hh122 rr157 = true := by kernel_rfl
theorem fr_198 : freeB rr198.2 = true := by kernel_rfl
theorem run_198 : runS ⟨429, 479, 32, 87, 461, 566⟩ hh152 rr198 = true := by kernel_rfl
theorem fr_199 : freeB rr199.2 = true := by kernel_rfl
theorem run_199 : runS ⟨429, 479, 96, 223, 525, 702⟩ hh132 rr199 = true := by kernel_rfl
theorem fr_216 : freeB rr216.2 = true := by kernel_rfl
theorem run_216 : runS ⟨480, 991, 96, 223, 576, 1214⟩ hh154 rr216 = true := by kernel_rfl
theorem fr_227 : freeB rr227.2 = true := by kernel_rfl
theorem run_227 : runS ⟨480, 991, 224, 479, 1407, 1470⟩ hh174 rr227 = true := by kernel_rfl
theorem fr_237 : freeB rr237.2 = true := by kernel_rfl
theorem run_237 : runS ⟨480, 991, 992, 1000, 1472, 1991⟩ hh181 rr237 = true := by kernel_rfl
theorem fr_260 : freeB rr260.2 = true := by kernel_rfl
theorem run_260 : runS ⟨992, 1000, 96, 223, 1088, 1223⟩ hh200 rr260 = true := by kernel_rfl
theorem fr_268 : freeB rr268.2 = true := by kernel_rfl
theorem run_268 : runS ⟨992, 1000, 224, 428, 1407, 1428⟩ hh206 rr268 = true := by kernel_rfl
end Go.Ev
