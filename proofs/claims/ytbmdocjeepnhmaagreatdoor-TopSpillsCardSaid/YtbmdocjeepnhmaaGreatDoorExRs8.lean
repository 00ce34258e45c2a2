/- TopSpills: steps of the connection. Printed by genS.py. -/
import Derived.Test.YtbmdocjeepnhmaaGreatDoorExRi
set_option linter.unusedVariables false
set_option linter.unusedSimpArgs false
set_option linter.unusedSectionVars false
namespace Go.Ev
open Go Go.RowKit Go.Proofs
set_option maxRecDepth 1000000
theorem fr_29 : freeB rr29.2 = true := by kernel_rfl
theorem run_29 : runS ⟨0, 31, 480, 991, 480, 1022⟩ hh23 rr29 = true := by kernel_rfl
theorem fr_36 : freeB rr36.2 = true := by kernel_rfl
theorem run_36 : runS ⟨0, 31, 992, 1000, 992, 1031⟩ hh29 rr36 = true := by kernel_rfl
theorem fr_38 : freeB rr38.2 = true := by kernel_rfl
theorem run_38 : runS ⟨32, 87, 0, 31, 32, 118⟩ hh30 rr38 = true := by kernel_rfl
theorem fr_41 : freeB rr41.2 = true := by kernel_rfl
theorem run_41 : runS ⟨32, 87, 0, 31, 32, 118⟩ hh33 rr41 = true := by kernel_rfl
theorem fr_84 : freeB rr84.2 = true := by kernel_rfl
theorem run_84 : runS ⟨88, 95, 88, 95, 176, 190⟩ hh66 rr84 = true := by kernel_rfl
theorem fr_93 : freeB rr93.2 = true := by kernel_rfl
theorem run_93 : runS ⟨88, 95, 224, 479, 312, 574⟩ hh73 rr93 = true := by kernel_rfl
theorem fr_98 : freeB rr98.2 = true := by kernel_rfl
theorem run_98 : runS ⟨88, 95, 224, 479, 396, 574⟩ hh77 rr98 = true := by kernel_rfl
theorem fr_102 : freeB rr102.2 = true := by kernel_rfl
theorem run_102 : runS ⟨88, 95, 480, 991, 568, 1086⟩ hh80 rr102 = true := by kernel_rfl
theorem fr_131 : freeB rr131.2 = true := by kernel_rfl
theorem run_131 : runS ⟨96, 223, 224, 479, 320, 702⟩ hh86 rr131 = true := by kernel_rfl
theorem fr_160 : freeB rr160.2 = true := by kernel_rfl
theorem run_160 : runS ⟨224, 428, 32, 87, 256, 515⟩ hh125 rr160 = true := by kernel_rfl
theorem fr_162 : freeB rr162.2 = true := by kernel_rfl
theorem run_162 : runS ⟨224, 479, 88, 95, 312, 574⟩ hh126 rr162 = true := by kernel_rfl
theorem fr_163 : freeB rr163.2 = true := by kernel_rfl
theorem run_163 : runS ⟨224, 428, 88, 95, 312, 395⟩ hh127 rr163 = true := by kernel_rfl
theorem fr_175 : freeB rr175.2 = true := by kernel_rfl
theorem run_175 : runS ⟨224, 479, 224, 479, 448, 958⟩ hh135 rr175 = true := by kernel_rfl
theorem fr_201 : freeB rr201.2 = true := by kernel_rfl
theorem run_201 : runS ⟨480, 991, 0, 223, 480, 1214⟩ hh0 rr201 = true := by kernel_rfl
theorem fr_211 : freeB rr211.2 = true := by kernel_rfl
theorem run_211 : runS ⟨480, 991, 32, 87, 512, 1078⟩ hh162 rr211 = true := by kernel_rfl
theorem fr_214 : freeB rr214.2 = true := by kernel_rfl
theorem run_214 : runS ⟨480, 991, 88, 95, 568, 1086⟩ hh164 rr214 = true := by kernel_rfl
theorem fr_236 : freeB rr236.2 = true := by kernel_rfl
theorem run_236 : runS ⟨480, 991, 992, 1000, 1472, 1991⟩ hh154 rr236 = true := by kernel_rfl
theorem fr_244 : freeB rr244.2 = true := by kernel_rfl
theorem run_244 : runS ⟨992, 1000, 0, 31, 992, 1031⟩ hh187 rr244 = true := by kernel_rfl
theorem fr_252 : freeB rr252.2 = true := by kernel_rfl
theorem run_252 : runS ⟨992, 1000, 88, 95, 1080, 1095⟩ hh190 rr252 = true := by kernel_rfl
theorem fr_271 : freeB rr271.2 = true := by kernel_rfl
theorem run_271 : runS ⟨992, 1000, 429, 479, 1421, 1479⟩ hh208 rr271 = true := by kernel_rfl
theorem fr_280 : freeB rr280.2 = true := by kernel_rfl
theorem run_280 : runS ⟨992, 1000, 992, 1000, 1984, 2000⟩ hh215 rr280 = true := by kernel_rfl
end Go.Ev
