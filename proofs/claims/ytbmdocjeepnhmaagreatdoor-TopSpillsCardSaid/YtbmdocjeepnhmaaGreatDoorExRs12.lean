/- TopSpills: steps of the connection. Printed by genS.py. -/
import Derived.Test.YtbmdocjeepnhmaaGreatDoorExRi
set_option linter.unusedVariables false
set_option linter.unusedSimpArgs false
set_option linter.unusedSectionVars false
namespace Go.Ev
open Go Go.RowKit Go.Proofs
set_option maxRecDepth 1000000
theorem fr_10 : freeB rr10.2 = true := by kernel_rfl
theorem run_10 : runS ⟨0, 31, 32, 87, 32, 118⟩ hh9 rr10 = true := by kernel_rfl
theorem fr_16 : freeB rr16.2 = true := by kernel_rfl
theorem run_16 : runS ⟨0, 31, 96, 223, 96, 254⟩ hh13 rr16 = true := by kernel_rfl
theorem fr_44 : freeB rr44.2 = true := by kernel_rfl
theorem run_44 : runS ⟨32, 87, 32, 87, 64, 174⟩ hh35 rr44 = true := by kernel_rfl
theorem fr_49 : freeB rr49.2 = true := by kernel_rfl
theorem run_49 : runS ⟨32, 87, 88, 95, 120, 182⟩ hh39 rr49 = true := by kernel_rfl
theorem fr_60 : freeB rr60.2 = true := by kernel_rfl
theorem run_60 : runS ⟨32, 87, 224, 428, 256, 515⟩ hh48 rr60 = true := by kernel_rfl
theorem fr_61 : freeB rr61.2 = true := by kernel_rfl
theorem run_61 : runS ⟨32, 87, 224, 428, 256, 515⟩ hh49 rr61 = true := by kernel_rfl
theorem fr_92 : freeB rr92.2 = true := by kernel_rfl
theorem run_92 : runS ⟨88, 95, 224, 479, 312, 574⟩ hh30 rr92 = true := by kernel_rfl
theorem fr_116 : freeB rr116.2 = true := by kernel_rfl
theorem run_116 : runS ⟨96, 223, 32, 87, 128, 310⟩ hh91 rr116 = true := by kernel_rfl
theorem fr_121 : freeB rr121.2 = true := by kernel_rfl
theorem run_121 : runS ⟨96, 223, 88, 95, 184, 318⟩ hh95 rr121 = true := by kernel_rfl
theorem fr_122 : freeB rr122.2 = true := by kernel_rfl
theorem run_122 : runS ⟨96, 223, 88, 95, 184, 318⟩ hh96 rr122 = true := by kernel_rfl
theorem fr_123 : freeB rr123.2 = true := by kernel_rfl
theorem run_123 : runS ⟨96, 223, 88, 95, 184, 318⟩ hh97 rr123 = true := by kernel_rfl
theorem fr_177 : freeB rr177.2 = true := by kernel_rfl
theorem run_177 : runS ⟨224, 479, 224, 479, 448, 958⟩ hh137 rr177 = true := by kernel_rfl
theorem fr_178 : freeB rr178.2 = true := by kernel_rfl
theorem run_178 : runS ⟨224, 479, 224, 479, 448, 958⟩ hh138 rr178 = true := by kernel_rfl
theorem fr_186 : freeB rr186.2 = true := by kernel_rfl
theorem run_186 : runS ⟨224, 479, 992, 1000, 1216, 1479⟩ hh117 rr186 = true := by kernel_rfl
theorem fr_203 : freeB rr203.2 = true := by kernel_rfl
theorem run_203 : runS ⟨480, 991, 0, 31, 480, 1022⟩ hh155 rr203 = true := by kernel_rfl
theorem fr_209 : freeB rr209.2 = true := by kernel_rfl
theorem run_209 : runS ⟨480, 991, 32, 87, 512, 1078⟩ hh160 rr209 = true := by kernel_rfl
theorem fr_230 : freeB rr230.2 = true := by kernel_rfl
theorem run_230 : runS ⟨480, 991, 429, 479, 1407, 1470⟩ hh176 rr230 = true := by kernel_rfl
theorem fr_234 : freeB rr234.2 = true := by kernel_rfl
theorem run_234 : runS ⟨480, 991, 480, 991, 960, 1982⟩ hh179 rr234 = true := by kernel_rfl
theorem fr_273 : freeB rr273.2 = true := by kernel_rfl
theorem run_273 : runS ⟨992, 1000, 480, 991, 1472, 1991⟩ hh209 rr273 = true := by kernel_rfl
theorem fr_279 : freeB rr279.2 = true := by kernel_rfl
theorem run_279 : runS ⟨992, 1000, 992, 1000, 1984, 2000⟩ hh214 rr279 = true := by kernel_rfl
end Go.Ev
